/- Part 7. -/
import Derived.Test.YtbikgdhbiebhcaaGreatDoorV06
import Derived.LaidEql
import Derived.Laws.Cover1
set_option linter.unusedVariables false
set_option linter.unusedSimpArgs false
set_option maxRecDepth 100000
set_option maxHeartbeats 2000000
open Go.Value renaming int -> V, string -> U, slice -> Y, pointer -> Z, func -> φ, agg -> γ, bool -> β
open Go.IntKind renaming i64 -> I
open Option renaming some -> W, none -> O
open Go.Obj renaming cells -> J
open Go.Ending renaming returned -> ρ
open Go.Proofs.Tryz renaming prog -> π
open Nat renaming le_refl -> η
open Go.RowKit.Below renaming refl -> ζ
namespace Go.Proofs.YtbikgdhbiebhcaaGreatDoor
open Go.RowKit Tryz
theorem cQ(K g i j:Int)(c:ByteArray)(k l:Option Addr)(a m f d:Nat)(w:World)(n:a=m):Calls π 167 #[γ #[V I K,V I g,V I i,U c,Y k a f,Y l m d,V I j]] w λe w'=>e=ρ (β true)/\Below w.heap.size w w':=by
 subst n;obtain⟨u,r,p,t,q,o,s,_⟩:=bd (af w (J #[V I K,V I g,V I i,U c,Y k a f,Y l a d,V I j] 256));have v:∀b,(binOp .eql 3 (V I (a:Int)) (V I (a:Int))).run π b=.ok (β true) b:=λb=>by simp[go_sem]
 go_enter func167,ntmps167
 go_wp2_with fail
 go_ret
 exact⟨rfl,(ζ _ _).alloc (η _) _⟩
def Af(n:Int)(i:Int):Bool:=decide (i < 0)||decide (n<=i)
theorem rX(args:Array Value)(w:World):(callFunc 277 args).run π w=.ok (.enter 277 args) w:=by kernel_rfl
theorem mV(a:Int)(q:Nat)(w:World)(e:q < w.heap.size)(d:w.cell? ⟨q,6,O⟩=W (V I a)):PredAt π 277 #[Z (W ⟨q,0,O⟩)] (Value.int I) (Af a) w:=by
 intro f x c;have g:f.cell? ⟨q,6,O⟩=W (V I a):=(World.cell?_of_block (w:=w) (c.block q e)).trans d;unfold Af;clear d c;by_cases b:x < 0
 ·rw[decide_eq_true b]
  go_enter func277,ntmps277
  go_wp2_with fail
  go_ret
  exact⟨rfl,0,rfl⟩
 ·rw[decide_eq_false b,Bool.false_or]
  go_enter func277,ntmps277
  go_wp2_with fail
  go_ret
  exact⟨rfl,0,rfl⟩
theorem gB(K m p c:Int)(k:ByteArray)(r d:Option Addr)(s a l b:Nat)(w:World)(f:List Nat)(n:Nat)(P:NS)(H:c=(n:Int))(C:a=f.length)(v:Row w P a (Y d a b) (xP f))(z:∀i∈f,i < n):Calls π 247 #[γ #[V I K,V I m,V I p,U k,Y r s l,Y d a b,V I c]] w λe w'=>e=ρ (β true)/\Below w.heap.size w w':=by
 have u:Below w.heap.size w (w.alloc (J #[V I K,V I m,V I p,U k,Y r s l,Y d a b,V I c] 256)):=(ζ _ _).alloc (η _) _;have A:=af w (J #[V I K,V I m,V I p,U k,Y r s l,Y d a b,V I c] 256);obtain⟨a9,a3,a1,a6,a2,ao,T,_⟩:=bd A;have D:=mV c w.heap.size (w.alloc (J #[V I K,V I m,V I p,U k,Y r s l,Y d a b,V I c] 256)) (lt_of_heap A) T;have L:Calls π 278 #[Y d a b,φ (.func 277) #[] #[Z (W ⟨w.heap.size,0,O⟩)]] (w.alloc (J #[V I K,V I m,V I p,U k,Y r s l,Y d a b,V I c] 256)) λe w'=>e=ρ (β false)/\∃q,w'=(w.alloc (J #[V I K,V I m,V I p,U k,Y r s l,Y d a b,V I c] 256)).drewN q:=by
  rcases Nat.eq_zero_or_pos a with y|y
  ·rw[y]
   exact(slices_ContainsFunc_empty (α:=Int) d b _ _).mono (λe w' t=>⟨t.1,0,t.2⟩)
  ·have G:=v.below u
   obtain⟨a5,al⟩:∃x,f[0]? =W x:=⟨_,zE (by omega)⟩;obtain⟨g,o,cap,e,_,a0,_⟩:=G.nat al;injection e with e1 e2 e3;subst e1 e3;have:=slices_ContainsFunc (Value.int I) (Af c) 277 _ rX g o a b (f.map λi:Nat=>(i:Int)) _ D (by simp[C]) (by have:=v.form;obtain⟨_,_,_,t⟩:=this;exact t) (λj ad=>by
    have E:j < f.length:=by simpa using ad
    obtain⟨a4,ba,av,R,_,_,S⟩:=G.nat (i:=j) (x:=f[j]) (zE E);injection R with e1 e2 e3;injection e1 with e1;injection e1 with e1 e4;subst e1 e4;rw[S];simp[E])
   have ac:(((f.map λi:Nat=>(i:Int)).take a).any (Af c))=false:=by
    rw[List.any_eq_false];intro x X;obtain⟨i,ab,rfl⟩:=List.mem_map.1 (List.mem_of_mem_take X);have:=z i ab;subst H;simp[Af];omega
   rw[ac]at this;exact this
 obtain⟨F,N⟩:=zx2 L u;clear L D v z u H C
 go_enter func247,ntmps247
 go_wp2_with fail
 refine F.out.mono ?_;rintro e an ⟨rfl,q,rfl⟩;have M:Below w.heap.size w ((w.alloc (J #[V I K,V I m,V I p,U k,Y r s l,Y d a b,V I c] 256)).drewN q):=below_drewN' N.out q;clear F
 go_wp2_with fail
 go_ret
 exact⟨rfl,M⟩
theorem mY(K i j l:Int)(f:ByteArray)(c m:Option Addr)(s n b g:Nat)(w:World)(a:List Tp.Sc)(p:NS)(R:s=a.length)(F:Row w p s (Y c s b) (xV a))(q:∀x∈a,x8 x=true/\AO x)(P:Tp.twice a=false)(H:Glob w)(M:∀k,p k->k < w.heap.size):Calls π 248 #[γ #[V I K,V I i,V I j,U f,Y c s b,Y m n g,V I l]] w λe w'=>e=ρ (β true)/\Below w.heap.size w w':=by
 subst R;have o:Below w.heap.size w (w.alloc (J #[V I K,V I i,V I j,U f,Y c a.length b,Y m n g,V I l] 256)):=(ζ _ _).alloc (η _) _;have z:=af w (J #[V I K,V I i,V I j,U f,Y c a.length b,Y m n g,V I l] 256);obtain⟨av,ad,ac,ao,A,ab,an,_⟩:=bd z;have u:=F.below o;have C:=eE 279 (.inl rfl) a _ p _ u (λx r=>⟨(q x r).1,(q x r).2.2.2⟩) (H.step o);have t:=λW (d:Below (w.alloc (J #[V I K,V I i,V I j,U f,Y c a.length b,Y m n g,V I l] 256)).heap.size (w.alloc (J #[V I K,V I i,V I j,U f,Y c a.length b,Y m n g,V I l] 256)) W)=>jI a _ p W (λx r=>(q x r).2) (u.below d) (λk S=>zK (M k S) (Nat.le_trans o.size d.size));rw[P]at t;obtain⟨E,L,y⟩:=zx3 C t o;clear C t F u q o H
 go_enter func248,ntmps248
 go_upto_region 2 with (fail)
 generalize (w.alloc (J #[V I K,V I i,V I j,U f,Y c a.length b,Y m n g,V I l] 256))=N at *
 go_wp2_with fail
 refine E.out.mono ?_;rintro e v ⟨rfl,d⟩;have al:v.cell? ⟨w.heap.size,4,O⟩=some (Y c a.length b):=(World.cell?_of_block (w:=N) (d.block _ (lt_of_heap z))).trans A;have D:=zD (L.out v d);have T:=zD (cR y.out (d.mono (η _)));clear d E L y A
 go_wp2_with fail
 refine D.out.mono ?_;rintro e a0 ⟨rfl,G⟩;have X:=cR T.out G;clear G D
 go_wp2_with fail
 go_ret
 exact⟨rfl,X⟩
theorem xC:eqL 0 0 ⟨#[]⟩ 0 0 ⟨#[]⟩=true:=by rw[jp];simp
theorem o5(K R T c:Int)(F ab:ByteArray)(d f:Option Addr)(al g b a:Nat)(w:World)(o:∀k,Far xO w k->Calls π 247 #[γ #[V I K,V I 0,V I 0,U ⟨#[]⟩,Y d 0 b,Y f g a,V I c]] k λe w'=>e=ρ (β true)/\Below k.heap.size k w'):
 Calls π 215 #[γ #[V I K,V I 0,V I 0,U ⟨#[]⟩,Y d 0 b,Y f g a,V I c]] w λe w'=>e=ρ (β true)/\Below w.heap.size w w':=by
 have t:Far xO w (w.alloc (J #[V I K,V I 0,V I 0,U ⟨#[]⟩,Y d 0 b,Y f g a,V I c] 256)):=(ξ _ w).alloc _;have m:=af w (J #[V I K,V I 0,V I 0,U ⟨#[]⟩,Y d 0 b,Y f g a,V I c] 256);obtain⟨X,N,L,S,M,H,P,_⟩:=bd m;have ac:=xC;have q:=zD o;clear o
 go_enter func215,ntmps215
 go_upto_region 1 with (fail)
 have n:=zD t;generalize (w.alloc (J #[V I K,V I 0,V I 0,U ⟨#[]⟩,Y d 0 b,Y f g a,V I c] 256))=i at *;have E:∀wx,Far xO i wx->wx.cell? ⟨w.heap.size,0,O⟩=W (V I K)/\wx.cell? ⟨w.heap.size,1,O⟩=W (V I 0)/\wx.cell? ⟨w.heap.size,2,O⟩=W (V I 0)/\wx.cell? ⟨w.heap.size,3,O⟩=W (U ⟨#[]⟩)/\wx.cell? ⟨w.heap.size,4,O⟩=W (Y d 0 b)/\wx.cell? ⟨w.heap.size,5,O⟩=W (Y f g a)/\wx.cell? ⟨w.heap.size,6,O⟩=W (V I c):=λwx y=>by obtain⟨p,u,D,v,z,x,s,_⟩:=bd (y.heap m id);exact⟨p,u,D,v,z,x,s⟩
 go_region_held3 (λw'=>w'.cell? ⟨w.heap.size,0,O⟩=W (V I K)/\w'.cell? ⟨w.heap.size,1,O⟩=W (V I 0)/\w'.cell? ⟨w.heap.size,2,O⟩=W (V I 0)/\w'.cell? ⟨w.heap.size,3,O⟩=W (U ⟨#[]⟩)/\w'.cell? ⟨w.heap.size,4,O⟩=W (Y d 0 b)/\w'.cell? ⟨w.heap.size,5,O⟩=W (Y f g a)/\w'.cell? ⟨w.heap.size,6,O⟩=W (V I c)) (exact E _ (by repeat (first|exact ξ _ _|assumption|refine Far.drew ?_|refine Far.alloc ?_ _|refine Far.drewN ?_ _))) (first|(go_at_call 247;refine(q.out i.drew (n.out.trans (by repeat (first|exact ξ _ _|assumption|refine Far.drew ?_|refine Far.alloc ?_ _|refine Far.drewN ?_ _)))).mono ?_;rintro e l ⟨rfl,r⟩;have G:Far xO i l:=(show Far xO i i.drew by repeat (first|exact ξ _ _|assumption|refine Far.drew ?_|refine Far.alloc ?_ _|refine Far.drewN ?_ _)).below r)|(go_at_call 246;refine(a7 246 (.inl rfl) _ 3 (by omega) _ (by intro j ad;have A:j=0\/j=1\/j=2:=(by omega);rcases A with rfl|rfl|rfl<;>exact aY rfl rfl)).mono ?_;rintro e an ⟨rfl,rfl⟩))
 have C:Far xO i (l.alloc (J #[β true,β true,β true] 4)):=by repeat (first|exact ξ _ _|assumption|refine Far.drew ?_|refine Far.alloc ?_ _|refine Far.drewN ?_ _)
 go_wp2_with fail
 go_ret
 exact⟨rfl,(n.out.trans C).to_below (η _) (λ_ _ e=>e)⟩
theorem pd(K a0 a2 f:Int)(T a4:ByteArray)(g i:Option Addr)(l k d c:Nat)(w:World)(p:∀a,Far xO w a->Calls π 167 #[γ #[V I K,V I 0,V I 0,U ⟨#[]⟩,Y g l d,Y i k c,V I f]] a λe w'=>e=ρ (β true)/\Below a.heap.size a w')(t:∀a,Far xO w a->Calls π 248 #[γ #[V I K,V I 0,V I 0,U ⟨#[]⟩,Y g l d,Y i k c,V I f]] a λe w'=>e=ρ (β true)/\Below a.heap.size a w')(s:∀a,Far xO w a->Calls π 247 #[γ #[V I K,V I 0,V I 0,U ⟨#[]⟩,Y g l d,Y i k c,V I f]] a λe w'=>e=ρ (β true)/\Below a.heap.size a w'):
 Calls π 216 #[γ #[V I K,V I 0,V I 0,U ⟨#[]⟩,Y g l d,Y i k c,V I f]] w λe w'=>e=ρ (β true)/\Below w.heap.size w w':=by
 have D:Far xO w (w.alloc (J #[V I K,V I 0,V I 0,U ⟨#[]⟩,Y g l d,Y i k c,V I f] 256)):=(ξ _ w).alloc _;have r:=af w (J #[V I K,V I 0,V I 0,U ⟨#[]⟩,Y g l d,Y i k c,V I f] 256);obtain⟨a3,an,ac,a1,ad,ab,ao,_⟩:=bd r;have a5:=xC;obtain⟨y,v,z⟩:=zx3 p t s;clear p t s
 go_enter func216,ntmps216
 go_upto_region 1 with (fail)
 have m:=zD D;generalize (w.alloc (J #[V I K,V I 0,V I 0,U ⟨#[]⟩,Y g l d,Y i k c,V I f] 256))=b at *;have S:∀wx,Far xO b wx->wx.cell? ⟨w.heap.size,0,O⟩=W (V I K)/\wx.cell? ⟨w.heap.size,1,O⟩=W (V I 0)/\wx.cell? ⟨w.heap.size,2,O⟩=W (V I 0)/\wx.cell? ⟨w.heap.size,3,O⟩=W (U ⟨#[]⟩)/\wx.cell? ⟨w.heap.size,4,O⟩=W (Y g l d)/\wx.cell? ⟨w.heap.size,5,O⟩=W (Y i k c)/\wx.cell? ⟨w.heap.size,6,O⟩=W (V I f):=λwx H=>by obtain⟨u,E,R,F,L,G,C,_⟩:=bd (H.heap r id);exact⟨u,E,R,F,L,G,C⟩
 go_region_held3 (λw'=>w'.cell? ⟨w.heap.size,0,O⟩=W (V I K)/\w'.cell? ⟨w.heap.size,1,O⟩=W (V I 0)/\w'.cell? ⟨w.heap.size,2,O⟩=W (V I 0)/\w'.cell? ⟨w.heap.size,3,O⟩=W (U ⟨#[]⟩)/\w'.cell? ⟨w.heap.size,4,O⟩=W (Y g l d)/\w'.cell? ⟨w.heap.size,5,O⟩=W (Y i k c)/\w'.cell? ⟨w.heap.size,6,O⟩=W (V I f)) (exact S _ (by repeat (first|exact ξ _ _|assumption|refine Far.drew ?_|refine Far.alloc ?_ _|refine Far.drewN ?_ _))) (first|(go_at_call 167;refine(y.out b.drew (m.out.trans (by repeat (first|exact ξ _ _|assumption|refine Far.drew ?_|refine Far.alloc ?_ _|refine Far.drewN ?_ _)))).mono ?_;rintro e n ⟨rfl,A⟩;have X:Far xO b n:=(show Far xO b b.drew by repeat (first|exact ξ _ _|assumption|refine Far.drew ?_|refine Far.alloc ?_ _|refine Far.drewN ?_ _)).below A)|(go_at_call 248;refine(v.out n (m.out.trans (by repeat (first|exact ξ _ _|assumption|refine Far.drew ?_|refine Far.alloc ?_ _|refine Far.drewN ?_ _)))).mono ?_;rintro e o ⟨rfl,M⟩;have av:Far xO b o:=(show Far xO b n by repeat (first|exact ξ _ _|assumption|refine Far.drew ?_|refine Far.alloc ?_ _|refine Far.drewN ?_ _)).below M)|(go_at_call 247;refine(z.out o (m.out.trans (by repeat (first|exact ξ _ _|assumption|refine Far.drew ?_|refine Far.alloc ?_ _|refine Far.drewN ?_ _)))).mono ?_;rintro e q ⟨rfl,x⟩;have al:Far xO b q:=(show Far xO b o by repeat (first|exact ξ _ _|assumption|refine Far.drew ?_|refine Far.alloc ?_ _|refine Far.drewN ?_ _)).below x)|(go_at_call 246;refine(a7 246 (.inl rfl) _ 4 (by omega) _ (by intro j a6;have N:j=0\/j=1\/j=2\/j=3:=(by omega);rcases N with rfl|rfl|rfl|rfl<;>exact aY rfl rfl)).mono ?_;rintro e a9 ⟨rfl,rfl⟩))
 have P:Far xO b (q.alloc (J #[β true,β true,β true,β true] 4)):=by repeat (first|exact ξ _ _|assumption|refine Far.drew ?_|refine Far.alloc ?_ _|refine Far.drewN ?_ _)
 go_wp2_with fail
 go_ret
 exact⟨rfl,(m.out.trans P).to_below (η _) (λ_ _ e=>e)⟩
theorem cP(K f g i:Int)(b:ByteArray)(j k:Option Addr)(m l d c L:Nat)(w:World)(n:(K=0/\L=214)\/(K=1/\L=215)\/(K=2/\L=216))(q:∀H,Far xO w H->Calls π L #[γ #[V I K,V I f,V I g,U b,Y j m d,Y k l c,V I i]] H λe w'=>e=ρ (β true)/\Below H.heap.size H w'):
 Calls π 164 #[γ #[V I K,V I f,V I g,U b,Y j m d,Y k l c,V I i]] w λe w'=>e=ρ (β true)/\Below w.heap.size w w':=by
 have P:Far xO w ((w.alloc (J #[V I K,V I f,V I g,U b,Y j m d,Y k l c,V I i] 256)).alloc (J #[φ (.func 214) #[] #[],φ (.func 215) #[] #[],φ (.func 216) #[] #[]] 390)):=((ξ _ w).alloc _).alloc _;have N:=aa (J #[φ (.func 214) #[] #[],φ (.func 215) #[] #[],φ (.func 216) #[] #[]] 390) (af w (J #[V I K,V I f,V I g,U b,Y j m d,Y k l c,V I i] 256));have M:=ah (w.alloc (J #[V I K,V I f,V I g,U b,Y j m d,Y k l c,V I i] 256)) (J #[φ (.func 214) #[] #[],φ (.func 215) #[] #[],φ (.func 216) #[] #[]] 390) (w.heap.size+1) (by simp);have p:=zD P;clear P;rcases n with ⟨rfl,rfl⟩|⟨rfl,rfl⟩|⟨rfl,rfl⟩
 ·have y:=zD q
  clear q
  go_enter func164,ntmps164
  go_upto_region 2 with (fail)
  generalize ((w.alloc (J #[V I 0,V I f,V I g,U b,Y j m d,Y k l c,V I i] 256)).alloc (J #[φ (.func 214) #[] #[],φ (.func 215) #[] #[],φ (.func 216) #[] #[]] 390))=a at *;have G:∀wx,Far xO a wx->wx.cell? ⟨w.heap.size,0,O⟩=W (V I 0)/\wx.cell? ⟨w.heap.size,1,O⟩=W (V I f)/\wx.cell? ⟨w.heap.size,2,O⟩=W (V I g)/\wx.cell? ⟨w.heap.size,3,O⟩=W (U b)/\wx.cell? ⟨w.heap.size,4,O⟩=W (Y j m d)/\wx.cell? ⟨w.heap.size,5,O⟩=W (Y k l c)/\wx.cell? ⟨w.heap.size,6,O⟩=W (V I i)/\wx.cell? ⟨w.heap.size+1,0,O⟩=W (φ (.func 214) #[] #[])/\wx.cell? ⟨w.heap.size+1,1,O⟩=W (φ (.func 215) #[] #[])/\wx.cell? ⟨w.heap.size+1,2,O⟩=W (φ (.func 216) #[] #[]):=λwx n=>by obtain⟨r,u,F,x,A,z,t,_⟩:=bd (n.heap N id);obtain⟨v,s,C,_⟩:=bv (n.heap M id);exact⟨r,u,F,x,A,z,t,v,s,C⟩
  go_region_held3 (λw'=>w'.cell? ⟨w.heap.size,0,O⟩=W (V I 0)/\w'.cell? ⟨w.heap.size,1,O⟩=W (V I f)/\w'.cell? ⟨w.heap.size,2,O⟩=W (V I g)/\w'.cell? ⟨w.heap.size,3,O⟩=W (U b)/\w'.cell? ⟨w.heap.size,4,O⟩=W (Y j m d)/\w'.cell? ⟨w.heap.size,5,O⟩=W (Y k l c)/\w'.cell? ⟨w.heap.size,6,O⟩=W (V I i)/\w'.cell? ⟨w.heap.size+1,0,O⟩=W (φ (.func 214) #[] #[])/\w'.cell? ⟨w.heap.size+1,1,O⟩=W (φ (.func 215) #[] #[])/\w'.cell? ⟨w.heap.size+1,2,O⟩=W (φ (.func 216) #[] #[])) (exact G _ (by repeat (first|exact ξ _ _|assumption|refine Far.drew ?_|refine Far.alloc ?_ _|refine Far.drewN ?_ _))) (first|(go_at_call 214;refine(y.out a.drew (p.out.trans (by repeat (first|exact ξ _ _|assumption|refine Far.drew ?_|refine Far.alloc ?_ _|refine Far.drewN ?_ _)))).mono ?_;rintro e o ⟨rfl,D⟩;have R:Far xO a o:=((ξ _ a).drew).below D))
  have E:Far xO a o:=by repeat (first|exact ξ _ _|assumption|refine Far.drew ?_|refine Far.alloc ?_ _|refine Far.drewN ?_ _)
  go_wp2_with fail
  go_ret
  exact⟨rfl,(p.out.trans E).to_below (η _) (λ_ _ e=>e)⟩
 ·have y:=zD q
  clear q
  go_enter func164,ntmps164
  go_upto_region 2 with (fail)
  generalize ((w.alloc (J #[V I 1,V I f,V I g,U b,Y j m d,Y k l c,V I i] 256)).alloc (J #[φ (.func 214) #[] #[],φ (.func 215) #[] #[],φ (.func 216) #[] #[]] 390))=a at *;have G:∀wx,Far xO a wx->wx.cell? ⟨w.heap.size,0,O⟩=W (V I 1)/\wx.cell? ⟨w.heap.size,1,O⟩=W (V I f)/\wx.cell? ⟨w.heap.size,2,O⟩=W (V I g)/\wx.cell? ⟨w.heap.size,3,O⟩=W (U b)/\wx.cell? ⟨w.heap.size,4,O⟩=W (Y j m d)/\wx.cell? ⟨w.heap.size,5,O⟩=W (Y k l c)/\wx.cell? ⟨w.heap.size,6,O⟩=W (V I i)/\wx.cell? ⟨w.heap.size+1,0,O⟩=W (φ (.func 214) #[] #[])/\wx.cell? ⟨w.heap.size+1,1,O⟩=W (φ (.func 215) #[] #[])/\wx.cell? ⟨w.heap.size+1,2,O⟩=W (φ (.func 216) #[] #[]):=λwx n=>by obtain⟨r,u,F,x,A,z,t,_⟩:=bd (n.heap N id);obtain⟨v,s,C,_⟩:=bv (n.heap M id);exact⟨r,u,F,x,A,z,t,v,s,C⟩
  go_region_held3 (λw'=>w'.cell? ⟨w.heap.size,0,O⟩=W (V I 1)/\w'.cell? ⟨w.heap.size,1,O⟩=W (V I f)/\w'.cell? ⟨w.heap.size,2,O⟩=W (V I g)/\w'.cell? ⟨w.heap.size,3,O⟩=W (U b)/\w'.cell? ⟨w.heap.size,4,O⟩=W (Y j m d)/\w'.cell? ⟨w.heap.size,5,O⟩=W (Y k l c)/\w'.cell? ⟨w.heap.size,6,O⟩=W (V I i)/\w'.cell? ⟨w.heap.size+1,0,O⟩=W (φ (.func 214) #[] #[])/\w'.cell? ⟨w.heap.size+1,1,O⟩=W (φ (.func 215) #[] #[])/\w'.cell? ⟨w.heap.size+1,2,O⟩=W (φ (.func 216) #[] #[])) (exact G _ (by repeat (first|exact ξ _ _|assumption|refine Far.drew ?_|refine Far.alloc ?_ _|refine Far.drewN ?_ _))) (first|(go_at_call 215;refine(y.out a.drew (p.out.trans (by repeat (first|exact ξ _ _|assumption|refine Far.drew ?_|refine Far.alloc ?_ _|refine Far.drewN ?_ _)))).mono ?_;rintro e o ⟨rfl,D⟩;have R:Far xO a o:=((ξ _ a).drew).below D))
  have E:Far xO a o:=by repeat (first|exact ξ _ _|assumption|refine Far.drew ?_|refine Far.alloc ?_ _|refine Far.drewN ?_ _)
  go_wp2_with fail
  go_ret
  exact⟨rfl,(p.out.trans E).to_below (η _) (λ_ _ e=>e)⟩
 ·have y:=zD q
  clear q
  go_enter func164,ntmps164
  go_upto_region 2 with (fail)
  generalize ((w.alloc (J #[V I 2,V I f,V I g,U b,Y j m d,Y k l c,V I i] 256)).alloc (J #[φ (.func 214) #[] #[],φ (.func 215) #[] #[],φ (.func 216) #[] #[]] 390))=a at *;have G:∀wx,Far xO a wx->wx.cell? ⟨w.heap.size,0,O⟩=W (V I 2)/\wx.cell? ⟨w.heap.size,1,O⟩=W (V I f)/\wx.cell? ⟨w.heap.size,2,O⟩=W (V I g)/\wx.cell? ⟨w.heap.size,3,O⟩=W (U b)/\wx.cell? ⟨w.heap.size,4,O⟩=W (Y j m d)/\wx.cell? ⟨w.heap.size,5,O⟩=W (Y k l c)/\wx.cell? ⟨w.heap.size,6,O⟩=W (V I i)/\wx.cell? ⟨w.heap.size+1,0,O⟩=W (φ (.func 214) #[] #[])/\wx.cell? ⟨w.heap.size+1,1,O⟩=W (φ (.func 215) #[] #[])/\wx.cell? ⟨w.heap.size+1,2,O⟩=W (φ (.func 216) #[] #[]):=λwx n=>by obtain⟨r,u,F,x,A,z,t,_⟩:=bd (n.heap N id);obtain⟨v,s,C,_⟩:=bv (n.heap M id);exact⟨r,u,F,x,A,z,t,v,s,C⟩
  go_region_held3 (λw'=>w'.cell? ⟨w.heap.size,0,O⟩=W (V I 2)/\w'.cell? ⟨w.heap.size,1,O⟩=W (V I f)/\w'.cell? ⟨w.heap.size,2,O⟩=W (V I g)/\w'.cell? ⟨w.heap.size,3,O⟩=W (U b)/\w'.cell? ⟨w.heap.size,4,O⟩=W (Y j m d)/\w'.cell? ⟨w.heap.size,5,O⟩=W (Y k l c)/\w'.cell? ⟨w.heap.size,6,O⟩=W (V I i)/\w'.cell? ⟨w.heap.size+1,0,O⟩=W (φ (.func 214) #[] #[])/\w'.cell? ⟨w.heap.size+1,1,O⟩=W (φ (.func 215) #[] #[])/\w'.cell? ⟨w.heap.size+1,2,O⟩=W (φ (.func 216) #[] #[])) (exact G _ (by repeat (first|exact ξ _ _|assumption|refine Far.drew ?_|refine Far.alloc ?_ _|refine Far.drewN ?_ _))) (first|(go_at_call 216;refine(y.out a.drew (p.out.trans (by repeat (first|exact ξ _ _|assumption|refine Far.drew ?_|refine Far.alloc ?_ _|refine Far.drewN ?_ _)))).mono ?_;rintro e o ⟨rfl,D⟩;have R:Far xO a o:=((ξ _ a).drew).below D))
  have E:Far xO a o:=by repeat (first|exact ξ _ _|assumption|refine Far.drew ?_|refine Far.alloc ?_ _|refine Far.drewN ?_ _)
  go_wp2_with fail
  go_ret
  exact⟨rfl,(p.out.trans E).to_below (η _) (λ_ _ e=>e)⟩
theorem qT(x:Tp.Sc)(a:x8 x=true)(b:x.s.length<=1000):AO x:=by
 unfold x8 at a;refine⟨uO _ ?_ ?_,uO _ ?_ ?_,b⟩<;>(repeat' split at a)<;>simp at a<;>omega
def Ah(x:Tp.Nd):Prop:=(x8 x.x=true/\x.x.s.length<=1000)/\∀a∈x.keys,x8 a=true/\a.s.length<=1000
theorem jc(x:Tp.Nd)(kv t:Value)(n:Nat)(g:NS)(w:World)(u:Row w g x.keys.length kv (xV x.keys))(l:Row w g x.kids.length t (xP x.kids))(F:Glob w)(v:∀k,g k->k < w.heap.size)(i:Ah x)(c:Tp.okNd n x=true):Calls π 164 #[yH x kv t n] w λe w'=>e=ρ (β true)/\Below w.heap.size w w':=by
 obtain⟨N,L,rfl,_⟩:=u.form;obtain⟨P,H,rfl,_⟩:=l.form;have s:∀f,Far xO w f->Glob f/\∀k,g k->k < f.heap.size:=λf b=>⟨F.far b (λ_ _ e=>e),λk C=>zK (v k C) b.size⟩;have r:∀f,Far xO w f->∀k,g k->k < w.heap.size->¬xO k:=λ_ _ _ _ _ e=>e;unfold Tp.okNd at c;unfold yH;by_cases m:x.k=0
 ·rw[if_pos m]at c
  simp only[zQ,List.isEmpty_iff]at c;have q:x.keys.length=0:=by rw[c.1.2];rfl
  have D:x.kids.length=0:=by rw[c.2];rfl
  rw[q,D];refine cP _ _ _ _ _ _ _ _ _ _ _ 214 w (.inl ⟨m,rfl⟩) (λf b=>o8 _ _ _ _ _ ⟨#[]⟩ _ _ 0 0 _ _ f (λa d=>iW x.x i.1.1 i.1.2 a (s a (b.trans d)).1))
 ·rw[if_neg m]at c
  by_cases p:x.k=1
  ·rw[if_pos p]at c
   simp only[zQ,List.isEmpty_iff,decide_eq_true_eq,List.all_eq_true]at c;have q:x.keys.length=0:=by rw[c.1.2];rfl
   rw[q,c.1.1];refine cP _ _ _ _ _ _ _ _ _ _ _ 215 w (.inr (.inl ⟨p,rfl⟩)) (λf b=>o5 _ 0 0 _ ⟨#[]⟩ ⟨#[]⟩ _ _ 0 _ _ _ f (λa d=>gB _ _ _ _ _ _ _ _ _ _ _ a x.kids n g rfl rfl (l.far (b.trans d) (r a (b.trans d))) c.2))
  ·rw[if_neg p]at c
   simp only[zQ,List.isEmpty_iff,decide_eq_true_eq,List.all_eq_true,beq_iff_eq,Bool.not_eq_true']at c;obtain⟨⟨⟨⟨⟨y,G⟩,E⟩,M⟩,A⟩,z⟩:=c;rw[G];refine cP _ _ _ _ _ _ _ _ _ _ _ 216 w (.inr (.inr ⟨y,rfl⟩)) (λf b=>pd _ 0 0 _ ⟨#[]⟩ ⟨#[]⟩ _ _ _ _ _ _ f
    (λa d=>cQ _ _ _ _ _ _ _ _ _ _ _ a E)
    (λa d=>mY _ _ _ _ _ _ _ _ _ _ _ a x.keys g rfl (u.far (b.trans d) (r a (b.trans d))) (λj o=>⟨(i.2 j o).1,qT j (i.2 j o).1 (i.2 j o).2⟩) A (s a (b.trans d)).1 (s a (b.trans d)).2)
    (λa d=>gB _ _ _ _ _ _ _ _ _ _ _ a x.kids n g rfl rfl (l.far (b.trans d) (r a (b.trans d))) z))
section
attribute [local go_sem] ak
theorem pJ(b:Int)(v:Value)(d:∃a n c,v=Y a n c)(w:World):Calls π 163 #[γ #[V I b,v]] w λe w'=>e=ρ (φ (.func 213) #[] #[Z (W ⟨w.heap.size,0,O⟩)])/\w'=w.alloc (J #[V I b,v] 54):=by
 obtain⟨a,n,c,rfl⟩:=d
 go_enter func163,ntmps163
 go_wp2
 go_ret
 exact⟨rfl,rfl⟩
theorem sg(args:Array Value)(w:World):(callFunc 213 args).run π w=.ok (.enter 213 args) w:=by kernel_rfl
def AY(e:NS)(g:List Tp.Nd)(d:Value)(t:Nat)(b:Array Value)(c:NS)(f:World):Prop:=∃x kv a,g[t]? =W x/\b=#[V I (t:Int),yH x kv a g.length]/\yN f e d g.length t x kv a/\c=xO
theorem nU(a0:Int)(i:NS)(g:List Tp.Nd)(v:Value)(m:Nat)(w:World)(f:yc w i g v)(ba:∀k,i k->k < w.heap.size)(d:w.heap[m]? =some (.cells #[V I a0,v] 54 (0,0))):
 yQ π 213 #[Z (some ⟨m,0,O⟩)] 3 g.length (AY i g v) xO (λk=>k=m\/i k) False (λ_ _=>True) (λ_=>True) w:=by
 intro l J db a1 W E b1 hF0 N bs c1 a3 ct
 replace d:=(E.block _ (lt_of_heap d)).trans d
 replace f:=f.below E
 obtain⟨base,a2⟩:∃ca,w.heap.size=ca:=⟨_,rfl⟩;rw[a2]at N bs;have bn:∀k,a1 k->k≠m/\¬i k:=λk b=>⟨λe=>(hF0 k b).2 (.inl e),λe=>(hF0 k b).2 (.inr e)⟩;obtain⟨a,S,rfl,a5⟩:=f.form;have c3:g.length<=9223372036854775807:=a5;have b2:RowKit.Hid (∀k,i k->k < W.heap.size):=zD (λk y=>by have:=ba k y;have:=E.size;omega);obtain⟨co,bb,b0⟩:=zx3 N a3 bn;have cm:=zF d 1 rfl;obtain⟨c,s⟩:∃c,g.length=c:=⟨_,rfl⟩;rw[s]at c3 cm bb f d;obtain⟨cS,c4⟩:=zx2 d f;rw[s];clear N bs a3 bn d f hF0 E b1 a2 c1 a5 ba
 go_enter func213,ntmps213
 go_wp2_with fail
 go_step3
 go_wp2_with fail
 go_step3
 go_wp2_with fail
 go_loopw [8] (λac wr=>∃(t:Nat) (r:NS),ac=V I (t:Int)/\t<=c/\yc wr i g (Y a c S)/\wr.heap[m]? =some (.cells #[V I a0,Y a c S] 54 (0,0))/\J t r wr/\(∀k,r k->k≠m/\¬i k)/\W.heap.size<=wr.heap.size) (λac _=>c - (Lib.intOf ac).toNat)
 case atStart=>exact⟨0,a1,rfl,z_ _,c4.out,cS.out,ct,b0.out,η _⟩
 case round=>
  obtain⟨t,r,rfl,dn,f,d,F,ab,dr⟩:=hrel;by_cases al:t < c
  ·obtain⟨x,R⟩:∃x,g[t]? =some x:=⟨_,zE (by rw[s];exact al)⟩
   obtain⟨kv,ds,p⟩:=f.at R;rw[s]at p;obtain⟨b4,o,cap,e,d0,dc,dm,dp,cc,dJ,df⟩:=p.cells;injection e with e1 e2 e3;subst e1 e3;have bR:=p;obtain⟨A,D,rfl,_⟩:=p.key.form;obtain⟨C,u,rfl,_⟩:=p.kid.form;obtain⟨T,c5⟩:∃T,xR x.x.s=U T:=⟨_,rfl⟩;have ck:(t:Int) < (c:Int):=by omega
   have dC:(0:Int)<=(t:Int):=by omega
   have j:Far xO wr (wr.alloc (.cells #[V I x.k,V I x.x.k,V I x.x.n,xR x.x.s,Y A x.keys.length D,Y C x.kids.length u] 185)):=(ξ _ wr).alloc _;have H:=af wr (.cells #[V I x.k,V I x.x.k,V I x.x.n,xR x.x.s,Y A x.keys.length D,Y C x.kids.length u] 185);have P:=f.far j (λ_ _ _ e=>e);have L:=j.heap d (λe=>e);have bk:=co.out _ r _ _ F (j.mono (λ_ _ e=>e.elim));have a4:AY i g (Y (some ⟨b4,o,O⟩) c S) t #[V I (t:Int),yH x (Y A x.keys.length D) (Y C x.kids.length u) c] xO (wr.alloc (.cells #[V I x.k,V I x.x.k,V I x.x.n,xR x.x.s,Y A x.keys.length D,Y C x.kids.length u] 185)):=⟨x,_,_,R,by rw[s],by rw[s];exact p.far j (λ_ _ _ e=>e),rfl⟩;have G:=bb.out t al r xO _ _ bk a4 (λk b=>b.elim);unfold yH at G;rw[c5]at cc H P L G j;obtain⟨b8,b9,X⟩:=zx3 G P ab;obtain⟨b3,cf,cv,cb,bx,b5,_⟩:=pE H;have dg:=zF L 1 rfl;obtain⟨be,bw⟩:=zx2 L H;have da:=j.size;clear f F ab R P L bk a4 G p bR d j H
   go_upto_region 3 with (fail)
   refine(wpIn_wide (n:=4)).1 ?_;generalize hqe:wr.heap.size=q at b3 cf cv cb bx b5 bw ⊢;generalize (wr.alloc (.cells #[V I x.k,V I x.x.k,V I x.x.n,U T,Y A x.keys.length D,Y C x.kids.length u] 185))=dj at *;obtain⟨dW,dv,assign,body,di,ao⟩:=b8.out;have c0:=zD ao;clear ao
   gi_wp2
   refine(c0.out).mono ?_;rintro e dl ⟨ad,⟨z,M⟩,(⟨rfl,bm⟩|⟨rfl,av⟩)⟩
   ·have a6:=b9.out.far z (λk y _ b=>(X.out k b).2 y)
    have bq:=z.heap be.out (λb=>(X.out _ b).1 rfl);have dA:=z.size;have a9:∀k,ad k->k≠m/\¬i k:=by
     intro k b;rcases M k b with b|b|b
     ·exact X.out k b
     ·exact b.elim
     ·exact⟨by have:=lt_of_heap be.out;omega,λy=>by have:=b2.out k y;omega⟩
    obtain⟨c2,cT,c6,cl⟩:=zx4 a6 bq bm a9;clear a6 bq bm a9 M z
    gi_wp2
    go_wp2_with fail
    go_roundw
    case rel=>exact⟨t+1,ad,rfl,by omega,c2.out,cT.out,c6.out,cl.out,by omega⟩
    case measure=>simp[Lib.intOf];omega
   ·have c9:=zD av
    clear av z M
    gi_wp2
    go_wp2_with fail
    try rw[Exit.noGoto_normal]
    go_end0
    exact⟨⟨_,rfl⟩,.inr ⟨ad,c9.out⟩⟩
  ·have bD:t=c:=by omega
   have ck:¬(t:Int) < (c:Int):=by omega
   subst bD;have b6:=zD F;clear f F ab d
   go_wp2_with fail
   go_end0
   exact⟨⟨_,rfl⟩,.inl ⟨r,b6.out,trivial⟩⟩
end
theorem sL(t:Value)(w:World):Calls π 56 #[.nilIface,t] w λe w'=>e=ρ (β false)/\w'=w:=by
 go_enter func56,ntmps56
 go_wp2
 go_ret
 exact⟨rfl,rfl⟩
theorem fd(a:Int)(w:World):Calls π 53 #[V I a,V I 0] w λe w'=>e=ρ .nilIface/\w'=w:=by
 go_enter func53,ntmps53
 go_wp2
 go_ret
 exact⟨rfl,rfl⟩
theorem pR(w:World):Calls π 36 #[.nilIface] w λe w'=>e=ρ (.tuple #[V I 0,V I 0])/\Below w.heap.size w w':=by
 go_enter func36,ntmps36
 go_wp2_with (go_at_call 56;refine(sL _ _).mono ?_;rintro e a ⟨rfl,rfl⟩)
 go_ret2
 exact⟨rfl,(ζ _ _).alloc (η _) _⟩
theorem nY(w:World):Calls π 75 #[.nilIface] w λe w'=>e=ρ (.tuple #[V I 0,V I 0])/\Below w.heap.size w w':=by
 go_enter func75,ntmps75
 go_wp2_with (go_at_call 56;refine(sL _ _).mono ?_;rintro e a ⟨rfl,rfl⟩)
 go_ret2
 exact⟨rfl,(ζ _ _).alloc (η _) _⟩
theorem nZ(w:World):Calls π 118 #[.nilIface] w λe w'=>e=ρ (.tuple #[V I 0,V I 0])/\Below w.heap.size w w':=by
 go_enter func118,ntmps118
 go_wp2_with (go_at_call 56;refine(sL _ _).mono ?_;rintro e a ⟨rfl,rfl⟩)
 go_ret2
 exact⟨rfl,(ζ _ _).alloc (η _) _⟩
section
attribute [local go_sem] ak
attribute [local go_sem] Oper.semAt_some
def yt(g:List Tp.Nd):Prop:=∀x∈g,Ah x
structure A5(w:World)(GG:NS)(g:List Tp.Nd)(v:Value)(q N t:Nat)(F:NS)(W:World):Prop where
 no:F=xO
 le:t<=N
 res:W.heap[q]? =some (J #[.nilIface] 41 (0,0))
 below:Below w.heap.size w W
theorem qy{d:Func}{a:Tmp}(f:d.results=#[.cell a 41])(c:World)(q:Nat)(b:Array Value)(g:c.cell? ⟨q,0,O⟩=W .nilIface)(i:b.getD a undef=Z (W ⟨q,0,O⟩)):(results d b).run π c=.ok .nilIface c:=by
 have e:b[a]?.getD undef=Z (W ⟨q,0,O⟩):=by simpa using i
 simp[results,f,e,go_sem,g]
theorem mT(c:Nat)(o:NS)(g:List Tp.Nd)(v:Value)(w:World)(ab:yc w o g v)(N:∀k,o k->k < w.heap.size)(ao:Glob w)(cS:yt g)(av:Tp.okGr c g=true):Calls π 119 #[γ #[V I (c:Int),v]] w λe w'=>e=ρ .nilIface/\Below w.heap.size w w':=by
 unfold Tp.okGr at av;simp only[zQ,decide_eq_true_eq,List.all_eq_true]at av;obtain⟨⟨co,df⟩,b2⟩:=av;obtain⟨a,d,rfl,c4⟩:=ab.form;have a5:=fW (c:Int) a g.length d c df;have a0:=pJ (c:Int) (Y a g.length d) ⟨_,_,_,rfl⟩;generalize hN:g.length=b at a5 a0 ab b2 co ⊢;obtain⟨q,L⟩:∃q,w.heap.size=q:=⟨_,rfl⟩;have dc:=λf=>uI (b:Int) 200 f;rw[decide_eq_false (by omega:¬(200:Int) < (b:Int))]at dc;have E:Below w.heap.size w ((w.alloc (J #[V I (c:Int),Y a b d] 54)).alloc (J #[.nilIface] 41)):=((ζ _ w).alloc (η _) _).alloc (by simp) _;have F:((w.alloc (J #[V I (c:Int),Y a b d] 54)).alloc (J #[.nilIface] 41)).heap[q]? =W (J #[V I (c:Int),Y a b d] 54 (0,0)):=by rw[<-L];exact aa _ (af w _)
 have D:((w.alloc (J #[V I (c:Int),Y a b d] 54)).alloc (J #[.nilIface] 41)).heap[q+1]? =W (J #[.nilIface] 41 (0,0)):=ah _ _ _ (by simp[L]);obtain⟨di,c1,_⟩:=bO F;obtain⟨b0,bw,dl,bR,b4⟩:=zx5 a5 a0 ab E ao;clear a5 a0 ab E c4 ao;refine callsIn_wide.1 (callsIn_of_wp_marks (n:=5) func119 rfl trivial (wpIn_wide.2 ?_));simp only[ntmps119,List.size_toArray,zO,List.length_nil,Nat.reduceAdd,Nat.reduceSub,Array.replicate_succ,Array.replicate_zero,List.push_toArray,List.append_toArray,List.nil_append,List.cons_append]
 go_upto_region 1 with (fail)
 have r:=zD L;have cT:((w.alloc (J #[V I (c:Int),Y a b d] 54)).alloc (J #[.nilIface] 41)).heap.size=q+2:=by simp[L]
 generalize ((w.alloc (J #[V I (c:Int),Y a b d] 54)).alloc (J #[.nilIface] 41))=dA at *;clear L
 go_wp2_with fail
 refine(b0.out _).mono ?_;rintro e z ⟨rfl,G⟩
 replace F:=(G.block q (by omega)).trans F
 replace D:=(G.block (q+1) (by omega)).trans D
 obtain⟨cv,dj,_⟩:=bO F;have b5:=G.size;have al:=cR bR.out (G.mono (η _));clear di c1 G bR b0 F
 go_wp2_with fail
 refine(bw.out _).mono ?_;rintro e d5 ⟨rfl,rfl⟩;have a2:Below w.heap.size w (z.alloc (J #[V I (c:Int),Y a b d] 54)):=al.alloc al.size _;have a3:=af z (J #[V I (c:Int),Y a b d] 54)
 replace D:=aa (J #[V I (c:Int),Y a b d] 54) D
 have an:(z.alloc (J #[V I (c:Int),Y a b d] 54)).heap.size=z.heap.size+1:=by simp
 generalize hb:z.heap.size=m at a3 an b5 ⊢;generalize (z.alloc (J #[V I (c:Int),Y a b d] 54))=a9 at *;have a1:=nU (c:Int) o g (Y a b d) m a9 (dl.out.below a2) (λk l=>by have:=N k l;have:=r.out;omega) a3;rw[hN]at a1;have c3:=zD a1;have dm:RowKit.Hid (A5 w o g (Y a b d) (q+1) b 0 xO a9):=zD ⟨rfl,z_ _,D,a2⟩;have T:=zD an;have y:RowKit.Hid (q+2<=m):=zD (by omega);clear a1 al a2 D a3 cv dj bw b5 cT an hb
 go_wp2_with fail
 refine wpIn_wide.1 (aC (n:=5) (gf:=213) (lb:=#[Z (W ⟨m,0,O⟩)]) rfl (λargs wx=>sg args wx)
  c3.out (λk e=>e.elim) (λk e=>by have:=T.out;rcases e with rfl|e;omega;have:=N k e;have:=r.out;have:=y.out;omega) (λt v c0 f j=>by obtain⟨_,_,_,_,rfl,_⟩:=j;rfl)
  (A5 w o g (Y a b d) (q+1) b) (λ_ _ _=>False) xO (λk j=>j.elim) dm.out ?hI (λ_ _ _ _ j _=>j) (λ_ _ _ _=>trivial) (λ_ _ _ _=>trivial) ?round ?done (λ_ _ _ j=>j.elim))
 case hI=>
  rintro t bm f H ⟨rfl,ba,db,bn⟩ s;have bs:∀i,i < m+1->¬y8 xO xO a9.heap.size i:=λi a6 e=>by have:=T.out;rcases e.2 with j|j;exact j;omega
  have:=y.out;have:=r.out;exact⟨rfl,ba,s.heap db (bs _ (by omega)),bn.trans (s.to_below bn.size (λi a6=>bs i (by omega)))⟩
 case round=>
  rintro t bm c0 d1 f K ck ct ⟨rfl,c9,u,p⟩ ⟨x,kv,dJ,bq,rfl,C,rfl⟩ ao c2 A;rw[hN]at C;have a4:=zL bq;obtain⟨b3,cc,rfl,_⟩:=C.key.form;obtain⟨b8,bb,rfl,_⟩:=C.kid.form;have ch:∀k,o k->k≠m+1+1:=λk l e=>by have:=N k l;have:=y.out;have:=r.out;omega
  have dr:=b4.out.1;have P:=λH (s:Far (·=m+1+1) f H)=>jc x _ _ b o H (C.key.far s (λk l _ e=>ch k l e)) (C.kid.far s (λk l _ e=>ch k l e)) ((b4.out.step p).far s (λk l e=>by have:=y.out;have:=r.out;omega)) (λk l=>zK (N k l) (Nat.le_trans p.size s.size)) (cS x a4) (b2 x a4);unfold yH at P;unfold yH;obtain⟨R,dn⟩:∃R,xR x.x.s=U R:=⟨_,rfl⟩;rw[dn]at P ⊢;rw[hN];have cb:=zD P;clear P C bq a4
  gi_wp2
  refine A _ _ ((ξ _ f).alloc _) ?_;intro bk S _ _;rw[T.out]at S ct;have E:Far xO f (f.alloc (J #[V I x.k,V I x.x.k,V I x.x.n,U R,Y b3 x.keys.length cc,Y b8 x.kids.length bb,V I b] 256)):=(ξ _ f).alloc _;have X:=(E.mono (D':=(·=m+1+1)) (λ_ _ e=>e.elim)).trans S;have b9:=S.heap (af f (J #[V I x.k,V I x.x.k,V I x.x.n,U R,Y b3 x.keys.length cc,Y b8 x.kids.length bb,V I b] 256)) (by omega);have bD:=X.heap u (by have:=y.out;omega);have cf:Below w.heap.size w bk:=p.trans (X.to_below p.size (λi a6 e=>by have:=y.out;have:=r.out;omega));have bx:=cb.out bk X;obtain⟨cl,dW,d2,dv,dp,ds,d4,_⟩:=bd b9;obtain⟨ca,ac,M⟩:=zx3 bx bD cf;clear u p bD cf S A E X b9 bx cb
  gi_wp2_with fail
  refine⟨trivial,(CallsIn.inRound _ (callsIn_wide.2 ca.out)).mono ?_⟩;rintro e da ⟨rfl,ad⟩;have b6:A5 w o g (Y a b d) (q+1) b (t+1) xO da:=⟨rfl,ck,(ad.block _ (lt_of_heap ac.out)).trans ac.out,M.out.trans (ad.mono M.out.size)⟩;have b1:=Far.of_below ad xO;obtain⟨dg,cm⟩:=zx2 b6 b1;clear ad b6 b1 ca
  gi_wp2_with fail
  exact⟨xO,dg.out,cm.out,λ_ j=>j.elim⟩
 case done=>
  rintro bm f ⟨rfl,c9,u,p⟩ _ A c2;rw[T.out]at A ⊢;have cl:=ag u 0;have d3:=zF u 0 rfl;obtain⟨ac,M,c6⟩:=zx3 u p A;clear u p A
  go_wp2_with fail
  have dC:=y.out;have c5:=Below.heap_setCell f ⟨q+1,0,O⟩ .nilIface;refine au (q:=m+1) rfl ((c5 _ (by show m+1≠q+1;omega)).trans c6.out) ?_;intro H be;have ba:=ae (be.heap (ai ac.out 0 .nilIface) (by omega)) 0;refine⟨_,qy results119 H (q+1) _ ba rfl,rfl,?_⟩;have d0:=r.out;exact(M.out.setCell (by show w.heap.size<=q+1;omega) _).trans (be.to_below (by simp[World.setCell];exact M.out.size) (λi a6 e=>by omega))
theorem iE(c:Nat)(f:NS)(g:List Tp.Nd)(v:Value)(w:World)(d:yc w f g v)(i:∀k,f k->k < w.heap.size)(q:Glob w)(l:yt g)(r:Tp.okGr c g=true):Calls π 83 #[γ #[V I (c:Int),v]] w λe w'=>e=ρ (.tuple #[V I 0,V I 0])/\Below w.heap.size w w':=by
 obtain⟨a,t,rfl,y⟩:=d.form;have b:Below w.heap.size w (w.alloc (J #[V I (c:Int),Y a g.length t] 54)):=(ζ _ w).alloc (η _) _;have o:=zD (mT c f g _ _ (d.below b) (λk s=>zK (i k s) b.size) (q.step b) l r);have m:=zD b;clear d i q l r b
 go_enter func83,ntmps83
 go_wp2_with fail
 refine o.out.mono ?_;rintro e x ⟨rfl,j⟩;have n:=zD (cR m.out j);clear j o m
 go_wp2_with fail
 refine(nZ _).mono ?_;rintro e z ⟨rfl,p⟩;have u:=cR n.out p;clear p n
 go_wp2_with fail
 go_ret2
 exact⟨rfl,u⟩
end
def funcs4(v:Value):Array Value:=#[φ (.func 21) #[v] #[],φ (.func 22) #[v] #[],φ (.func 23) #[v] #[],φ (.func 24) #[v] #[]]
theorem eb(x:Tp.Sc)(H:x.s.length<=1000)(y:x8 x=true)(w:World)(L:Glob w):Calls π 8 #[scV x] w λe w'=>e=ρ (.tuple #[xR (Tp.scText x),.int I 0])/\Below w.heap.size w w':=by
 obtain⟨k,n,s⟩:=x;have M:=fy ⟨k,n,s⟩ H;rw[y]at M;have i:=(ζ w.heap.size w).alloc (η _) (J #[.int I k,.int I n,xR s] 30);have m:=zD (M _ (L.step i));have S:=zD L;clear M L;unfold scV at m ⊢;simp only at m H;unfold xR at m i;rw[show xR s=U ⟨s.toArray⟩from rfl];generalize hS:((⟨s.toArray⟩:ByteArray):ByteArray)=g at m i ⊢;generalize hV:xR (Tp.scText ⟨k,n,s⟩)=V;have ab:=zD hV;unfold x8 at y;have P:(U g:Value)=xR s:=by rw[<-hS];rfl
 have A:=zD P;clear P;by_cases R:k=0
 ·subst R
  go_enter func8,ntmps8
  go_wp2_with fail
  refine m.out.mono ?_;rintro e b ⟨rfl,d⟩;have a:=(d.block w.heap.size (by simp)).trans (af w _);have c:=i.trans (d.mono i.size);have r:=zF a 0 rfl;have G:=zF a 1 rfl;have D:=zF a 2 rfl;have f:=λW (z:Below w.heap.size w W)=>(show Calls π 21 #[γ #[.int I 0,.int I n,U g]] W λe w'=>e=ρ (xR (Tp.scText ⟨0,n,s⟩))/\Below W.heap.size W w' from by rw[A.out];exact tJ ⟨0,n,s⟩ W);rw[hV]at f;have t:=zD f;have q:=c.size;have p:w.heap.size < b.heap.size:=lt_of_heap a;have F:∀o j:Obj,((b.alloc o).alloc j).cell? ⟨w.heap.size,0,O⟩=some (.int I 0):=λo j=>aK (by simp;omega) (aK p r);have u:=zD c;clear d c a f
  go_wp2_with fail
  have l:Below w.heap.size w ((b.alloc (Obj.cells #[.int I 0,.int I n,U g] 60)).alloc (Obj.cells (funcs4 (γ #[.int I 0,.int I n,U g])) 61)):=(u.out.alloc q _).alloc (by simp;omega) _;refine(t.out _ l).mono ?_;rintro e E ⟨rfl,v⟩
  go_wp2_with fail
  go_ret2
  exact⟨rfl,l.trans (v.mono (by simp;omega))⟩
 by_cases T:k=1
 ·subst T
  go_enter func8,ntmps8
  go_wp2_with fail
  refine m.out.mono ?_;rintro e b ⟨rfl,d⟩;have a:=(d.block w.heap.size (by simp)).trans (af w _);have c:=i.trans (d.mono i.size);have r:=zF a 0 rfl;have G:=zF a 1 rfl;have D:=zF a 2 rfl;have f:=λW (z:Below w.heap.size w W)=>(show Calls π 22 #[γ #[.int I 1,.int I n,U g]] W λe w'=>e=ρ (xR (Tp.scText ⟨1,n,s⟩))/\Below W.heap.size W w' from by rw[A.out];exact pM ⟨1,n,s⟩ W);rw[hV]at f;have t:=zD f;have q:=c.size;have p:w.heap.size < b.heap.size:=lt_of_heap a;have F:∀o j:Obj,((b.alloc o).alloc j).cell? ⟨w.heap.size,0,O⟩=some (.int I 1):=λo j=>aK (by simp;omega) (aK p r);have u:=zD c;clear d c a f
  go_wp2_with fail
  have l:Below w.heap.size w ((b.alloc (Obj.cells #[.int I 1,.int I n,U g] 60)).alloc (Obj.cells (funcs4 (γ #[.int I 1,.int I n,U g])) 61)):=(u.out.alloc q _).alloc (by simp;omega) _;refine(t.out _ l).mono ?_;rintro e E ⟨rfl,v⟩
  go_wp2_with fail
  go_ret2
  exact⟨rfl,l.trans (v.mono (by simp;omega))⟩
 by_cases N:k=2
 ·subst N
  have C:-9223372036854775808<=n/\n<=9223372036854775807:=by simp at y;omega
  go_enter func8,ntmps8
  go_wp2_with fail
  refine m.out.mono ?_;rintro e b ⟨rfl,d⟩;have a:=(d.block w.heap.size (by simp)).trans (af w _);have c:=i.trans (d.mono i.size);have r:=zF a 0 rfl;have G:=zF a 1 rfl;have D:=zF a 2 rfl;have f:=λW (z:Below w.heap.size w W)=>(show Calls π 23 #[γ #[.int I 2,.int I n,U g]] W λe w'=>e=ρ (xR (Tp.scText ⟨2,n,s⟩))/\Below W.heap.size W w' from by rw[A.out];exact oP ⟨2,n,s⟩ C.1 C.2 W (S.out.step z));rw[hV]at f;have t:=zD f;have q:=c.size;have p:w.heap.size < b.heap.size:=lt_of_heap a;have F:∀o j:Obj,((b.alloc o).alloc j).cell? ⟨w.heap.size,0,O⟩=some (.int I 2):=λo j=>aK (by simp;omega) (aK p r);have u:=zD c;clear d c a f
  go_wp2_with fail
  have l:Below w.heap.size w ((b.alloc (Obj.cells #[.int I 2,.int I n,U g] 60)).alloc (Obj.cells (funcs4 (γ #[.int I 2,.int I n,U g])) 61)):=(u.out.alloc q _).alloc (by simp;omega) _;refine(t.out _ l).mono ?_;rintro e E ⟨rfl,v⟩
  go_wp2_with fail
  go_ret2
  exact⟨rfl,l.trans (v.mono (by simp;omega))⟩
 by_cases X:k=3
 ·subst X
  have C:Ln.right s=true:=by simp at y;exact y.2
  go_enter func8,ntmps8
  go_wp2_with fail
  refine m.out.mono ?_;rintro e b ⟨rfl,d⟩;have a:=(d.block w.heap.size (by simp)).trans (af w _);have c:=i.trans (d.mono i.size);have r:=zF a 0 rfl;have G:=zF a 1 rfl;have D:=zF a 2 rfl;have f:=λW (z:Below w.heap.size w W)=>(show Calls π 24 #[γ #[.int I 3,.int I n,U g]] W λe w'=>e=ρ (xR (Tp.scText ⟨3,n,s⟩))/\Below W.heap.size W w' from by rw[A.out];exact pW ⟨3,n,s⟩ H C W (S.out.step z));rw[hV]at f;have t:=zD f;have q:=c.size;have p:w.heap.size < b.heap.size:=lt_of_heap a;have F:∀o j:Obj,((b.alloc o).alloc j).cell? ⟨w.heap.size,0,O⟩=some (.int I 3):=λo j=>aK (by simp;omega) (aK p r);have u:=zD c;clear d c a f
  go_wp2_with fail
  have l:Below w.heap.size w ((b.alloc (Obj.cells #[.int I 3,.int I n,U g] 60)).alloc (Obj.cells (funcs4 (γ #[.int I 3,.int I n,U g])) 61)):=(u.out.alloc q _).alloc (by simp;omega) _;refine(t.out _ l).mono ?_;rintro e E ⟨rfl,v⟩
  go_wp2_with fail
  go_ret2
  exact⟨rfl,l.trans (v.mono (by simp;omega))⟩
 ·simp[R,T,N,X]at y
theorem Cz(x:Tp.Sc)(d:x.s.length<=1000)(g:x8 x=false)(w:World)(f:Glob w):Calls π 8 #[scV x] w λe w'=>e=ρ (.tuple #[U ⟨#[]⟩,V I 60])/\Below w.heap.size w w':=by
 obtain⟨k,n,s⟩:=x;have c:=fy ⟨k,n,s⟩ d;rw[g]at c;have a:=(ζ w.heap.size w).alloc (η _) (J #[V I k,V I n,xR s] 30);have b:=zD (c _ (f.step a));clear c f;unfold scV at b ⊢;simp only at b d;unfold xR at b a;rw[show xR s=U ⟨s.toArray⟩from rfl];generalize hS:((⟨s.toArray⟩:ByteArray):ByteArray)=j at b a ⊢
 go_enter func8,ntmps8
 go_wp2_with fail
 refine b.out.mono ?_;rintro e l ⟨rfl,i⟩
 go_wp2_with fail
 go_ret2
 exact⟨rfl,a.trans (i.mono a.size)⟩
end Go.Proofs.YtbikgdhbiebhcaaGreatDoor
namespace Tp
open Ln (right plainB)
theorem CN(a:List Sc)(b:∀x∈a,okKey x):toks (6 * a.length+3) 0 true 0 (123::rowK a)=W (⟨10,[],0⟩::DX 1 a):=by
 rw[cH,if_neg (by decide),if_neg (by decide),show one 0 true (123::rowK a)=W (10,[],1,1)from rfl];simp only[List.drop_succ_cons,List.drop_zero,List.getD_cons_zero,Nat.sub_self];rw[show ((123:UInt8).toNat==32)=false from rfl,(BU a _ _ b (by omega)).2];rfl
def DW:Tree:=⟨0,[],⟨2,7,[]⟩,[],[]⟩
def mapT(a:List Sc):Tree:=⟨2,[],Sc.null,a,a.map λ_=>DW⟩
theorem BO:∀(b:List Sc) (n a:Nat),(∀x∈b,okKey x)->2 * b.length+2<=n->fdict n 2 (DX a b)=W (b,b.map (λ_=>DW),[])
 | [],n,a,_,h=>by
  obtain⟨m,rfl⟩:∃m,n=m+2:=⟨n - 2,by simp at h;omega⟩;rfl
 |x::r,n,a,hk,h=>by
  obtain⟨m,rfl⟩:∃m,n=m+2:=⟨n - 2,by simp at h;omega⟩;have d:=BO r (m+1) (a+(scText x).length+5) (λc e=>hk c (by simp[e])) (by simp at h;omega);have g:=(CU x (hk x (by simp)) true []).2 a;have f:(D0 x).1≠11:=by unfold D0;split<;>simp
  rw[DX,fdict.eq_def];simp only[f,if_false,g];rw[show fval (m+1) 2 (⟨1,[55],a+(scText x).length+2⟩::⟨7,[],a+(scText x).length+3⟩::DX (a+(scText x).length+5) r)=W (DW,⟨7,[],a+(scText x).length+3⟩::DX (a+(scText x).length+5) r)from rfl];simp only[ne_eq,not_true_eq_false,if_false,if_true,d];rfl
theorem Bk:∀(b:List Sc) (a:Nat),(DX a b).length=4 * b.length+1
 | [],_=>rfl
 |x::r,a=>by simp only[DX,zO,Bk r];omega
theorem BP(a:List Sc):depth (mapT a)<=2:=by
 have:∀a:List Sc,depthL (a.map λ_=>DW)<=1:=by
  intro a;induction a with
  |nil=>simp[depthL]
  |cons s r ih=>simp only[List.map_cons,depthL,DW,depth]at ih ⊢;omega
 have:=this a;simp only[mapT,depth];omega
theorem C7(a:List Sc)(b:∀x∈a,okKey x):bval (⟨10,[],0⟩::DX 1 a) 1=W (mapT a):=by
 have d:=BP a;have c:fval (4 * a.length+3) 1 (⟨10,[],0⟩::DX 1 a)=W (mapT a,[]):=by
  rw[fval.eq_def];simp only[show ¬24 < 1 by omega,show ¬((10:Int)=1\/(10:Int)=2)by decide,show ¬(10:Int)=3 by decide,show ¬(10:Int)=4 by decide,show ¬(10:Int)=8 by decide,if_false,if_true];rw[BO a _ 1 b (by omega)];rfl
 unfold bval;rw[zO,Bk,c];simp only;rw[if_pos (by omega)]
theorem CD(a:List Sc)(b:∀x∈a,okKey x)(d:Int):bread [⟨d,0,⟨10,[],0⟩::DX 1 a⟩]=W (mapT a):=by
 have e:isKey (⟨10,[],0⟩::DX 1 a)=false:=by cases a<;>rfl
 have c:isPl (⟨10,[],0⟩::DX 1 a)=true:=by cases a<;>rfl
 unfold bread;simp only[show isDash (⟨10,[],0⟩::DX 1 a)=false from rfl,e,c,List.isEmpty_nil,Bool.and_self,if_true,C7 a b];rfl
def DY:Nd:=⟨0,⟨2,7,[]⟩,[],[]⟩
def DV(a:List Sc):List Nd:=⟨2,Sc.null,a,(List.range a.length).map (·+1)⟩::a.map λ_=>DY
theorem Bx(x:List Sc):∀(a:List Sc) (b:List Nat) (g:List Nd),g.length+a.length+1<=200->
 layL 2 0 (a.map λ_=>DW) (⟨2,Sc.null,x,b⟩::g,[])=W (⟨2,Sc.null,x,b++(List.range a.length).map (·+(g.length+1))⟩::(g++a.map λ_=>DY),[])
 | [],ks,g,_=>by simp[layL]
 |s::r,ks,g,h=>by
  have c:=Bx x r (ks++[g.length+1]) (g++[DY]) (by simp at h ⊢;omega);rw[List.map_cons,layL];rw[show lay 2 DW (⟨2,Sc.null,x,ks⟩::g,[])=W (g.length+1,⟨2,Sc.null,x,ks⟩::(g++[DY]),[]) by
   rw[DW,lay,if_neg (by simp[shaped,AK,twice]),if_neg (by decide),if_neg (by simp at h ⊢;omega)];rfl]
  simp only[m0];rw[c];simp only[List.append_assoc,List.singleton_append,zP,zO,List.length_nil,List.map_cons,Option.some.injEq,Prod.mk.injEq,List.cons.injEq,Nd.mk.injEq,true_and,and_true,List.append_cancel_left_eq];rw[List.range_succ_eq_map,List.map_cons,List.map_map];simp only[Nat.zero_add,List.cons.injEq,true_and];refine List.map_congr_left λi _=>?_;simp only[Function.comp_apply];omega
theorem CA(a:List Sc)(c:∀x∈a,okKey x)(f:a.length+1<=200):graph (mapT a)=if twice a=true then O else W (DV a):=by
 unfold graph mapT;have d:shaped ⟨2,[],Sc.null,a,a.map λ_=>DW⟩=true:=by
  simp only[shaped,show ¬(2:Int)=0 by decide,show ¬(2:Int)=1 by decide,if_false,if_true,decide_true,List.length_map,beq_self_eq_true,Bool.true_and,List.isEmpty_nil,Bool.true_or,Bool.and_true];exact List.all_eq_true.2 λx e=>(c x e).1
 rw[lay];by_cases b:twice a=true
 ·rw[if_pos (.inr (.inr b)),if_pos b];rfl
 ·rw[if_neg (by simp[d,b]),if_neg b,if_neg (by decide),if_neg (by simp)]
  simp only[List.isEmpty_nil,if_true,List.nil_append,List.length_nil];rw[Bx a a [] [] (by simpa using by omega)];rfl
def insK(x:Sc):List Sc->List Sc
 | []=>[x]
 |y::r=>if scLt x y then x::y::r else y::insK x r
def sortK(l:List Sc):List Sc:=l.foldl (λa x=>insK x a) []
theorem BM(p:Sc × Nat):∀l,(insert p l).map (·.1)=insK p.1 (l.map (·.1))
 | []=>rfl
 |q::r=>by
  rw[insert,List.map_cons,insK];split
  ·rfl
  ·rw[List.map_cons,BM p r]
theorem Dh(b:List Sc)(c:List Nat)(d:b.length=c.length):(sort (b.zip c)).map (·.1)=sortK b:=by
 have:∀(l:List (Sc × Nat)) (a:List (Sc × Nat)),(l.foldl (λa p=>insert p a) a).map (·.1)=(l.map (·.1)).foldl (λa x=>insK x a) (a.map (·.1)):=by
  intro l;induction l with
  |nil=>intro a;rfl
  |cons p l ih=>intro a;rw[List.foldl_cons,ih,BM,List.map_cons,List.foldl_cons]
 unfold sort sortK;rw[this];congr 1
 exact List.map_fst_zip (Nat.le_of_eq d)
theorem ir(p:Sc × Nat):∀l,(insert p l).length=l.length+1
 | []=>rfl
 |q::r=>by
  rw[insert];split
  ·rfl
  ·rw[zO,ir p r,zO]
theorem iq(p:Sc × Nat):∀l x,x∈insert p l↔x=p\/x∈l
 | [],x=>by simp[insert]
 |q::r,x=>by
  rw[insert];split
  ·simp
  ·rw[List.mem_cons,iq p r,List.mem_cons]
   constructor
   ·rintro (a|a|a)
    ·exact .inr (.inl a)
    ·exact .inl a
    ·exact .inr (.inr a)
   ·rintro (a|a|a)
    ·exact .inr (.inl a)
    ·exact .inl a
    ·exact .inr (.inr a)
theorem cW(l:List (Sc × Nat)):(sort l).length=l.length/\∀x,x∈sort l↔x∈l:=by
 have:∀(l a:List (Sc × Nat)),(l.foldl (λa p=>insert p a) a).length=l.length+a.length/\∀x,x∈l.foldl (λa p=>insert p a) a↔x∈l\/x∈a:=by
  intro l;induction l with
  |nil=>intro a;simp
  |cons p l ih=>
   intro a;rw[List.foldl_cons];obtain⟨d,c⟩:=ih (insert p a);refine⟨by rw[d,ir,zO];omega,λx=>?_⟩;rw[c,iq,List.mem_cons];constructor
   ·rintro (b|b|b)
    ·exact .inl (.inr b)
    ·exact .inl (.inl b)
    ·exact .inr b
   ·rintro ((b|b)|b)
    ·exact .inr (.inl b)
    ·exact .inl b
    ·exact .inr (.inr b)
 obtain⟨d,c⟩:=this l [];exact⟨by simpa [sort]using d,λx=>by simpa [sort]using c x⟩
theorem bg:∀(a b:B),(bLt a b=true/\bLt b a=false)\/(bLt a b=false/\bLt b a=true)\/(a=b/\bLt a b=false)
 | [],[]=>by simp[bLt]
 | [],_::_=>by simp[bLt]
 |_::_,[]=>by simp[bLt]
 |a::r,b::s=>by
  have d:=bg r s;simp only[bLt];rcases Nat.lt_trichotomy a.toNat b.toNat with c|c|c
  ·left;simp[c,show ¬b.toNat < a.toNat by omega,show ¬b.toNat=a.toNat by omega]
  ·have e:a=b:=UInt8.toNat_inj.1 c
   subst e
   simpa using d
  ·right;left;simp[c,show ¬a.toNat < b.toNat by omega,show ¬a.toNat=b.toNat by omega]
theorem lh:∀(a d e:B),bLt a d=true->bLt d e=true->bLt a e=true
 |_,_,[],_,h=>by cases ‹B›<;>simp[bLt]at h
 |_,[],_::_,h,_=>by simp[bLt]at h
 | [],_::_,_::_,_,_=>by simp[bLt]
 |a::r,d::s,e::t,c,b=>by
  simp only[bLt,Bool.or_eq_true,zQ,decide_eq_true_eq,beq_iff_eq]at c b ⊢;rcases c with c|⟨c,g⟩<;>rcases b with b|⟨b,f⟩
  ·left;omega
  ·left;omega
  ·left;omega
  ·exact .inr ⟨by omega,lh r s t g f⟩
theorem ec(a d e:Sc)(c:scLt a d=true)(b:scLt d e=true):scLt a e=true:=by
 simp only[scLt,Bool.or_eq_true,zQ,decide_eq_true_eq,beq_iff_eq]at c b ⊢;rcases c with c|⟨c,i|⟨i,g⟩⟩<;>rcases b with b|⟨b,f|⟨f,j⟩⟩
 ·left;omega
 ·left;omega
 ·left;omega
 ·left;omega
 ·right;exact⟨by omega,.inl (by omega)⟩
 ·right;exact⟨by omega,.inl (by omega)⟩
 ·left;omega
 ·right;exact⟨by omega,.inl (by omega)⟩
 ·right;exact⟨by omega,.inr ⟨by omega,lh _ _ _ g j⟩⟩
theorem gW(a d:Sc)(b:scLt a d=true):scLt d a=false:=by
 cases f:scLt d a with
 |false=>rfl
 |true=>
  have:=ec a d a b f;simp only[scLt,Bool.or_eq_true,zQ,decide_eq_true_eq,beq_iff_eq]at this;rcases this with b|⟨_,b|⟨_,b⟩⟩
  ·omega
  ·omega
  ·rcases bg a.s a.s with ⟨c,e⟩|⟨c,e⟩|⟨_,c⟩
   ·rw[b]at e;exact absurd e (by simp)
   ·rw[b]at c;exact absurd c (by simp)
   ·rw[b]at c;exact absurd c (by simp)
def risen(l:List Sc):Prop:=l.Pairwise λa b=>scLt b a=false
theorem nH(x:Sc):∀l b,b∈insK x l↔b=x\/b∈l
 | [],b=>by simp[insK]
 |q::r,b=>by
  rw[insK];split
  ·simp
  ·rw[List.mem_cons,nH x r,List.mem_cons]
   constructor
   ·rintro (a|a|a)
    ·exact .inr (.inl a)
    ·exact .inl a
    ·exact .inr (.inr a)
   ·rintro (a|a|a)
    ·exact .inr (.inl a)
    ·exact .inl a
    ·exact .inr (.inr a)
theorem iu(x:Sc):∀l,risen l->risen (insK x l)
 | [],_=>by simp[insK,risen]
 |y::r,h=>by
  obtain⟨b,c⟩:=List.pairwise_cons.1 h;rw[insK];split
  ·rename_i hx
   refine List.pairwise_cons.2 ⟨λz a=>?_,h⟩;rcases List.mem_cons.1 a with rfl|a
   ·exact gW _ _ hx
   ·cases d:scLt z x with
    |false=>rfl
    |true=>have:=ec z x y d hx;rw[b z a]at this;exact absurd this (by simp)
  ·rename_i hx
   refine List.pairwise_cons.2 ⟨λz a=>?_,iu x r c⟩;rcases (nH x r z).1 a with rfl|a
   ·simpa using hx
   ·exact b z a
theorem lS(l:List Sc):risen (sortK l):=by
 have:∀(l a:List Sc),risen a->risen (l.foldl (λa x=>insK x a) a):=by
  intro l;induction l with
  |nil=>intro a b;exact b
  |cons x l ih=>intro a b;exact ih _ (iu x a b)
 exact this l [] List.Pairwise.nil
theorem Cs(x:Sc):∀l,(∀a∈l,scLt x a=false)->insK x l=l++[x]
 | [],_=>rfl
 |a::r,h=>by
  rw[insK,if_neg (by rw[h a (by simp)];simp),Cs x r λz b=>h z (by simp[b])];rfl
theorem Cq:∀(l a:List Sc),risen (a++l)->l.foldl (λa x=>insK x a) a=a++l
 | [],a,_=>by simp
 |x::l,a,h=>by
  have d:=List.pairwise_append.1 h;rw[List.foldl_cons,Cs x a (λb c=>d.2.2 b c x (by simp))];have:=Cq l (a++[x]) (by simpa [risen]using h)
  simpa using this
end Tp
namespace Go.Proofs.YtbikgdhbiebhcaaGreatDoor
open Go.RowKit Tryz
theorem xM(s:ByteArray)(w:World):Calls π 68 #[U s] w λe w'=>e=ρ (β false)/\w'=w:=by
 go_enter func68,ntmps68
 go_wp2
 go_ret
 exact⟨by simp,rfl⟩
theorem dY:∀x c:List UInt8,Op.bytesLess x c=Tp.bLt x c
 | [],[]=>by simp[Op.bytesLess,Tp.bLt]
 |_::_,[]=>by simp[Op.bytesLess,Tp.bLt]
 | [],_::_=>by simp[Op.bytesLess,Tp.bLt]
 |a::x,b::c=>by
  rw[Op.bytesLess,Tp.bLt,dY x c];have e:decide (a < b)=decide (a.toNat < b.toNat):=by rw[Bool.eq_iff_iff];simp[UInt8.lt_iff_toNat_lt]
  have d:(a==b)=(a.toNat==b.toNat):=by rw[Bool.eq_iff_iff];simp[<-UInt8.toNat_inj]
  rw[e,d]
theorem up(a c:ByteArray)(w:World):Calls π 47 #[U a,U c] w λe w'=>e=ρ (V I (if Tp.bLt a.data.toList c.data.toList then -1 else if Tp.bLt c.data.toList a.data.toList then 1 else 0))/\w'=w:=by
 have j:Op.bytesLess a.toList c.toList=Tp.bLt a.data.toList c.data.toList:=by rw[dY,ByteArray.toList_eq,ByteArray.toList_eq]
 have i:(a.toList==c.toList)=(!Tp.bLt a.data.toList c.data.toList&&!Tp.bLt c.data.toList a.data.toList):=by
  rw[ByteArray.toList_eq,ByteArray.toList_eq];rcases Tp.bg a.data.toList c.data.toList with ⟨d,b⟩|⟨d,b⟩|⟨d,b⟩
  ·rw[d,b]
   rw[beq_eq_false_iff_ne.2 (λe=>by rw[e]at d b;rw[d]at b;cases b)];rfl
  ·rw[d,b]
   rw[beq_eq_false_iff_ne.2 (λe=>by rw[e]at d b;rw[d]at b;cases b)];rfl
  ·rw[d]at b ⊢
   rw[b];simp
 generalize Tp.bLt a.data.toList c.data.toList=f at *;generalize Tp.bLt c.data.toList a.data.toList=B at *
 go_enter func47,ntmps47
 cases f<;>cases B
 all_goals go_wp2_with (go_at_call 68;refine(xM _ _).mono ?_;rintro e g ⟨rfl,rfl⟩)
 all_goals go_ret
 all_goals exact⟨rfl,rfl⟩
theorem wC(xs:List Int)(g:Nat)(n:Nat)(k:xs.length=n)(v:n<=100)(w:World)(l:∀i x,xs[i]? =W x->w.cell? ⟨g,i,O⟩=W (V I x)):
 Calls π 45 #[Y (W ⟨g,0,O⟩) n n] w λe w'=>e=ρ (V I ((xs.find? (·≠0)).getD 0))/\w'=w:=by
 generalize hR:(xs.find? (·≠0)).getD 0=R;obtain⟨p,q,j⟩:=zx3 hR l k;clear hR l k
 go_enter func45,ntmps45
 go_wp2_with fail
 go_loopw [2,5,8] (λ_ _ a wr=>∃i:Nat,a=V I (i:Int)/\wr=w/\i<=n/\((xs.drop i).find? (·≠0)).getD 0=R) (λ_ _ a _=>n - (Lib.intOf a).toNat)
 case atStart=>exact⟨0,rfl,rfl,z_ _,by rw[List.drop_zero];exact p.out⟩
 case round=>
  obtain⟨i,rfl,rfl,u,b⟩:=hrel;by_cases r:i < n
  ·have o:(i:Int) < (n:Int):=by omega
   obtain⟨c,d⟩:=fk xs i (by rw[j.out];exact r);have t:=q.out i _ d;rw[aE xs i c d,List.find?_cons]at b;have s:IntKind.i64.wrap ((i:Int)+1)=(i:Int)+1:=zU _ (by omega);clear d;by_cases f:c=0
   ·subst f
    simp only[ne_eq,not_true_eq_false,decide_false]at b
    go_wp2_with fail
    go_roundw
    case rel=>exact⟨i+1,by simp,trivial,by omega,by simpa using b⟩
    case measure=>simp[Lib.intOf];omega
   ·rw[show decide (c≠0)=true by simpa using f]at b
    obtain rfl:c=R:=by simpa using b
    go_wp2_with fail
    go_ret
    exact⟨rfl,rfl⟩
  ·have o:¬(i:Int) < (n:Int):=by omega
   have m:R=0:=by
    rw[<-b,List.drop_eq_nil_of_le (by rw[j.out];omega)];rfl
   subst m
   go_wp2_with fail
   go_ret
   exact⟨rfl,rfl⟩
def za(a b:Tp.Sc):Int:=if Tp.scLt a b then -1 else if Tp.scLt b a then 1 else 0
theorem xp(a b:Tp.Sc):eqL a.k a.n ⟨a.s.toArray⟩ b.k b.n ⟨b.s.toArray⟩=decide (a=b):=by
 rw[jp];obtain⟨k,n,s⟩:=a;obtain⟨e,c,d⟩:=b;rw[Bool.eq_iff_iff];simp[and_assoc]
theorem sD(a c:Tp.Sc)(l:a≠c):(([Lib.compareInt a.k c.k,Lib.compareInt a.n c.n,if Tp.bLt a.s c.s then -1 else if Tp.bLt c.s a.s then 1 else 0]:List Int).find? (·≠0)).getD 0=za a c:=by
 obtain⟨k,n,s⟩:=a;obtain⟨i,g,j⟩:=c;simp only;unfold za Tp.scLt Lib.compareInt;simp only;rcases Int.lt_trichotomy k i with d|d|d
 ·simp[d]
 ·subst d
  rcases Int.lt_trichotomy n g with f|f|f
  ·simp[f]
  ·subst f
   rcases Tp.bg s j with ⟨e,b⟩|⟨e,b⟩|⟨e,b⟩
   ·simp[e,b]
   ·simp[e,b]
   ·subst e;exact absurd rfl l
  ·have:¬n < g:=by omega
   have b:¬n=g:=by omega
   have m:¬g=n:=by omega
   simp[f,this,b]
 ·have:¬k < i:=by omega
  have b:¬k=i:=by omega
  simp[d,this,b]
theorem mQ(a b:Tp.Sc)(w:World):Calls π 28 #[scV a,scV b] w λe w'=>e=ρ (V I (za a b))/\Below w.heap.size w w':=by
 have y:=xp a b;have f:=sD a b;have m:a=b->za a b=0:=by
  intro e;subst e;unfold za;have:Tp.scLt a a=false:=by
   cases E:Tp.scLt a a with
   |false=>rfl
   |true=>have:=Tp.gW a a E;rw[E]at this;cases this
  rw[this];rfl
 have t:=up ⟨a.s.toArray⟩ ⟨b.s.toArray⟩;rw[eR,eR]at t;unfold scV xR;generalize hR:za a b=ab at f m ⊢;generalize (if Tp.bLt a.s b.s then (-1:Int)else if Tp.bLt b.s a.s then 1 else 0)=c3 at *;obtain⟨k,n,s⟩:=a;obtain⟨d,c,z⟩:=b;simp only at f t y ⊢;generalize (⟨s.toArray⟩:ByteArray)=g at *;generalize (⟨z.toArray⟩:ByteArray)=o at *;clear hR;have u:Below w.heap.size w ((w.alloc (J #[V I k,V I n,U g] 30)).alloc (J #[V I d,V I c,U o] 30)):=((ζ _ _).alloc (η _) _).alloc (by simp) _;by_cases j:(⟨k,n,s⟩:Tp.Sc)=⟨d,c,z⟩
 ·have m:=m j
  rw[decide_eq_true j]at y;subst m
  go_enter func28,ntmps28
  go_wp2_with fail
  go_ret
  exact⟨rfl,u⟩
 ·have f:=f j
  rw[decide_eq_false j]at y;obtain⟨R,H,A⟩:=zx3 t f u;have p:((w.alloc (J #[V I k,V I n,U g] 30)).alloc (J #[V I d,V I c,U o] 30)).heap[w.heap.size]? =_:=aa _ (af w _);have r:((w.alloc (J #[V I k,V I n,U g] 30)).alloc (J #[V I d,V I c,U o] 30)).heap[w.heap.size+1]? =_:=ah _ _ (w.heap.size+1) (by simp);clear t f m j u
  go_enter func28,ntmps28
  go_wp2_with fail
  generalize (w.alloc (J #[V I k,V I n,U g] 30)).alloc (J #[V I d,V I c,U o] 30)=l at *;have S:=zF p 0 rfl;have T:=zF p 1 rfl;have X:=zF p 2 rfl;have M:=zF r 0 rfl;have G:=zF r 1 rfl;have P:=zF r 2 rfl;have v:=wC [Lib.compareInt k d,Lib.compareInt n c,c3] l.heap.size 3 rfl (by omega) (l.alloc (J #[V I (Lib.compareInt k d),V I (Lib.compareInt n c),V I c3] 3)).drew (by
   intro i x q;show (l.alloc _).cell? _=_;rw[ae (af l _) i];rcases i with _|_|_|i
   ·simpa using q
   ·simpa using q
   ·simpa using q
   ·simp at q)
  rw[H.out]at v;have F:=zD v;have L:=A.out.size;have C:Below w.heap.size w (l.alloc (J #[V I (Lib.compareInt k d),V I (Lib.compareInt n c),V I c3] 3)).drew:=(A.out.alloc L _).drew;have N:=zD C;clear p r v C
  go_region_held3 (λw'=>w'.cell? ⟨w.heap.size,0,O⟩=W (V I k)/\w'.cell? ⟨w.heap.size,1,O⟩=W (V I n)/\w'.cell? ⟨w.heap.size,2,O⟩=W (U g)/\w'.cell? ⟨w.heap.size+1,0,O⟩=W (V I d)/\w'.cell? ⟨w.heap.size+1,1,O⟩=W (V I c)/\w'.cell? ⟨w.heap.size+1,2,O⟩=W (U o)) (first|(with_reducible exact⟨S,T,X,M,G,P⟩)|go_keep) (first
   |(go_at_call 47;refine(R.out _).mono ?_;rintro e D ⟨rfl,rfl⟩)
   |(go_at_call 46;refine(cmp_Compare_int _ _ _).mono ?_;rintro e D ⟨rfl,rfl⟩)
   |(go_at_call 45;refine F.out.mono ?_;rintro e D ⟨rfl,rfl⟩))
  go_wp2_with fail
  go_ret
  exact⟨rfl,N.out⟩
section
section
variable {α:Type} (f:α->Tp.Sc)
def zg(p:α):List α->List α
 | []=>[p]
 |q::r=>if Tp.scLt (f p) (f q)then p::q::r else q::zg p r
def yq(l:List α):List α:=l.foldl (λa p=>zg f p a) []
theorem nJ(p:α):∀l,(zg f p l).map f=Tp.insK (f p) (l.map f)
 | []=>rfl
 |q::r=>by
  rw[zg,List.map_cons,Tp.insK];split
  ·rfl
  ·rw[List.map_cons,nJ p r]
theorem p9(l:List α):(yq f l).map f=Tp.sortK (l.map f):=by
 have:∀(l a:List α),(l.foldl (λa p=>zg f p a) a).map f=(l.map f).foldl (λa x=>Tp.insK x a) (a.map f):=by
  intro l;induction l with
  |nil=>intro a;rfl
  |cons x l ih=>intro a;rw[List.foldl_cons,ih,List.map_cons,List.foldl_cons,nJ]
 exact this l []
theorem nI(p:α):∀b B:List α,(∀a∈b,Tp.scLt (f p) (f a)=false)->(∀c,B.head? =W c->Tp.scLt (f p) (f c)=true)->zg f p (b++B)=b++p::B
 | [],[],_,_=>rfl
 | [],c::B,_,h=>by rw[List.nil_append,zg,if_pos (h c rfl)];rfl
 |a::b,B,h,h'=>by
  rw[List.cons_append,zg,if_neg (by rw[h a (by simp)];simp),nI p b B (λx d=>h x (by simp[d])) h'];rfl
theorem tf(p l a:Tp.Sc)(e:Tp.scLt p l=false)(g:Tp.scLt l a=false):Tp.scLt p a=false:=by
 cases i:Tp.scLt p a with
 |false=>rfl
 |true=>
  have j:Tp.scLt a l=true\/a=l:=by
   simp only[Tp.scLt,Bool.or_eq_false_iff,Bool.and_eq_false_iff,decide_eq_false_iff_not,beq_eq_false_iff_ne]at g;by_cases m:a.k < l.k
   ·left;simp[Tp.scLt,m]
   ·by_cases d:a.k=l.k
    ·rcases g.2 with b|b
     ·exact absurd d.symm b
     ·by_cases o:a.n < l.n
      ·left;simp[Tp.scLt,d,o]
      ·by_cases f:a.n=l.n
       ·rcases b.2 with b|b
        ·exact absurd f.symm b
        ·rcases Tp.bg a.s l.s with c|c|c
         ·left;simp[Tp.scLt,d,f,c.1]
         ·rw[c.2]at b;cases b
         ·right
          obtain⟨k,n,s⟩:=a;obtain⟨t,q,r⟩:=l;simp only at d f c;rw[d,f,c.1]
       ·omega
    ·omega
  rcases j with b|rfl
  ·rw[Tp.ec p a l i b]at e;cases e
  ·rw[i]at e;cases e
theorem rq(p:α)(e c B:List α)(m:c++B=e)(d:Tp.risen (e.map f))(j:∀a,c.getLast? =W a->Tp.scLt (f p) (f a)=false)(n:∀i,B.head? =W i->Tp.scLt (f p) (f i)=true):zg f p e=c++p::B:=by
 subst m;refine nI f p c B (λa b=>?_) n;rcases List.eq_nil_or_concat c with rfl|⟨o,l,rfl⟩
 ·simp at b
 ·rw[List.concat_eq_append]at b j d
  have g:=j l (by simp);rcases List.mem_append.1 b with b|b
  ·refine tf _ _ _ g ?_
   unfold Tp.risen at d;simp only[List.map_append,List.append_assoc]at d;have k:=(List.pairwise_append.1 d).2.2 (f a) (List.mem_map.2 ⟨a,b,rfl⟩) (f l) (by simp);exact k
  ·simp at b
   rw[b];exact g
theorem lT(l:List α):Tp.risen ((yq f l).map f):=by rw[p9];exact Tp.lS _
theorem od(l:List α)(i:Nat)(p:α)(a:l[i]? =W p):yq f (l.take (i+1))=zg f p (yq f (l.take i)):=by
 unfold yq;rw[zG,a,List.foldl_append];rfl
theorem nK(p:α):∀l,(zg f p l).length=l.length+1
 | []=>rfl
 |q::r=>by
  rw[zg];split
  ·rfl
  ·rw[zO,nK p r,zO]
theorem cg(l:List α):(yq f l).length=l.length:=by
 have:∀(l a:List α),(l.foldl (λa p=>zg f p a) a).length=a.length+l.length:=by
  intro l;induction l with
  |nil=>intro a;rfl
  |cons x l ih=>intro a;rw[List.foldl_cons,ih,nK,zO];omega
 have b:=this l [];rw[List.length_nil,Nat.zero_add]at b;exact b
end
theorem kL(p:Tp.Sc × Nat):∀l,zg Prod.fst p l=Tp.insert p l
 | []=>rfl
 |q::r=>by rw[zg,Tp.insert,kL p r]
theorem ce(l:List (Tp.Sc × Nat)):yq Prod.fst l=Tp.sort l:=by
 unfold yq Tp.sort;congr 1
 funext a p
 exact kL p a
theorem CV(p:Tp.Sc):∀l,zg id p l=Tp.insK p l
 | []=>rfl
 |q::r=>by rw[zg,Tp.insK,CV p r];rfl
theorem Di(l:List Tp.Sc):yq id l=Tp.sortK l:=by
 unfold yq Tp.sortK;congr 1
 funext a p
 exact CV p a
def PR(w:World)(g:Nat)(c:List Value):Prop:=∃a T,w.heap[g]? =W (J a T (0,0))/\∀(i:Nat) (b:Value),c[i]? =W b->a[i]? =W b
theorem aQ{w:World}{g:Nat}{d:List Value}(f:PR w g d)(i:Nat)(b:Value):PR (w.setCell ⟨g,i,O⟩ b) g (d.set i b):=by
 obtain⟨m,T,k,c⟩:=f;refine⟨_,T,ai k i b,λj v a=>?_⟩;rw[List.getElem?_set]at a;split at a
 ·rename_i e
  subst e;split at a
  ·rename_i hl
   have:=c i _ (zE hl);have l:=(Array.getElem?_eq_some_iff.1 this).1;simp[Array.getElem?_setIfInBounds,l]
   simpa using a
  ·cases a
 ·rename_i e
  rw[Array.getElem?_setIfInBounds_ne e];exact c j v a
theorem PR.cell{w:World}{g:Nat}{b:List Value}(c:PR w g b){i:Nat}{a:Value}(f:b[i]? =W a):w.cell? ⟨g,i,O⟩=W a:=by
 obtain⟨j,T,e,d⟩:=c;exact(ae e i).trans (d i a f)
theorem PR.frozen{w:World}{g:Nat}{b:List Value}(a:PR w g b)(i:Nat):w.frozen? ⟨g,i,O⟩=false:=by
 obtain⟨d,T,c,e⟩:=a;exact ag c i
theorem PR.far{D:NS}{w w':World}{g:Nat}{a:List Value}(d:PR w g a)(c:Far D w w')(i:¬D g):PR w' g a:=by
 obtain⟨b,T,f,e⟩:=d;exact⟨b,T,c.heap f i,e⟩
theorem PR.lt{w:World}{g:Nat}{b:List Value}(a:PR w g b):g < w.heap.size:=by
 obtain⟨d,T,c,e⟩:=a;exact lt_of_heap c
theorem DN{w:World}{g m k:Nat}{X i:List Value}{a d e c b f:Value}(j:PR w g (X++[a,d,e,c,b,f]++i))(l:X.length=m)(n:m+3=k):
 (PR ((((((w.setCell ⟨g,m,O⟩ c).setCell ⟨g,m+1,O⟩ b).setCell ⟨g,m+2,O⟩ f).setCell ⟨g,k,O⟩ a).setCell ⟨g,k+1,O⟩ d).setCell ⟨g,k+2,O⟩ e) g (X++[c,b,f,a,d,e]++i)/\Far (·=g) w ((((((w.setCell ⟨g,m,O⟩ c).setCell ⟨g,m+1,O⟩ b).setCell ⟨g,m+2,O⟩ f).setCell ⟨g,k,O⟩ a).setCell ⟨g,k+1,O⟩ d).setCell ⟨g,k+2,O⟩ e))/\(PR ((((((w.setCell ⟨g,k,O⟩ a).setCell ⟨g,k+1,O⟩ d).setCell ⟨g,k+2,O⟩ e).setCell ⟨g,m,O⟩ c).setCell ⟨g,m+1,O⟩ b).setCell ⟨g,m+2,O⟩ f) g (X++[c,b,f,a,d,e]++i)/\Far (·=g) w ((((((w.setCell ⟨g,k,O⟩ a).setCell ⟨g,k+1,O⟩ d).setCell ⟨g,k+2,O⟩ e).setCell ⟨g,m,O⟩ c).setCell ⟨g,m+1,O⟩ b).setCell ⟨g,m+2,O⟩ f)):=by
 subst l n;refine⟨⟨?_,(((((((ξ (·=g) w).setCell (p:=⟨g,_,O⟩) (λ_=>rfl) c).setCell (p:=⟨g,_,O⟩) (λ_=>rfl) b).setCell (p:=⟨g,_,O⟩) (λ_=>rfl) f).setCell (p:=⟨g,_,O⟩) (λ_=>rfl) a).setCell (p:=⟨g,_,O⟩) (λ_=>rfl) d).setCell (p:=⟨g,_,O⟩) (λ_=>rfl) e)⟩,⟨?_,(((((((ξ (·=g) w).setCell (p:=⟨g,_,O⟩) (λ_=>rfl) a).setCell (p:=⟨g,_,O⟩) (λ_=>rfl) d).setCell (p:=⟨g,_,O⟩) (λ_=>rfl) e).setCell (p:=⟨g,_,O⟩) (λ_=>rfl) c).setCell (p:=⟨g,_,O⟩) (λ_=>rfl) b).setCell (p:=⟨g,_,O⟩) (λ_=>rfl) f)⟩⟩
 ·have:=(aQ (aQ (aQ (aQ (aQ (aQ j (X.length) c) (X.length+1) b) (X.length+2) f) ((X.length+3)) a) ((X.length+3)+1) d) ((X.length+3)+2) e)
  simpa [List.set_append_right,Nat.add_assoc]using this
 ·have:=(aQ (aQ (aQ (aQ (aQ (aQ j ((X.length+3)) a) ((X.length+3)+1) d) ((X.length+3)+2) e) (X.length) c) (X.length+1) b) (X.length+2) f)
  simpa [List.set_append_right,Nat.add_assoc]using this
theorem xf{w:World}{g m k:Nat}{X l:List Value}{a d e i c b f j:Value}(n:PR w g (X++[a,d,e,i,c,b,f,j]++l))(o:X.length=m)(q:m+4=k):
 (PR ((((((((w.setCell ⟨g,m,O⟩ c).setCell ⟨g,m+1,O⟩ b).setCell ⟨g,m+2,O⟩ f).setCell ⟨g,m+3,O⟩ j).setCell ⟨g,k,O⟩ a).setCell ⟨g,k+1,O⟩ d).setCell ⟨g,k+2,O⟩ e).setCell ⟨g,k+3,O⟩ i) g (X++[c,b,f,j,a,d,e,i]++l)/\Far (·=g) w ((((((((w.setCell ⟨g,m,O⟩ c).setCell ⟨g,m+1,O⟩ b).setCell ⟨g,m+2,O⟩ f).setCell ⟨g,m+3,O⟩ j).setCell ⟨g,k,O⟩ a).setCell ⟨g,k+1,O⟩ d).setCell ⟨g,k+2,O⟩ e).setCell ⟨g,k+3,O⟩ i))/\(PR ((((((((w.setCell ⟨g,k,O⟩ a).setCell ⟨g,k+1,O⟩ d).setCell ⟨g,k+2,O⟩ e).setCell ⟨g,k+3,O⟩ i).setCell ⟨g,m,O⟩ c).setCell ⟨g,m+1,O⟩ b).setCell ⟨g,m+2,O⟩ f).setCell ⟨g,m+3,O⟩ j) g (X++[c,b,f,j,a,d,e,i]++l)/\Far (·=g) w ((((((((w.setCell ⟨g,k,O⟩ a).setCell ⟨g,k+1,O⟩ d).setCell ⟨g,k+2,O⟩ e).setCell ⟨g,k+3,O⟩ i).setCell ⟨g,m,O⟩ c).setCell ⟨g,m+1,O⟩ b).setCell ⟨g,m+2,O⟩ f).setCell ⟨g,m+3,O⟩ j)):=by
 subst o q;refine⟨⟨?_,(((((((((ξ (·=g) w).setCell (p:=⟨g,_,O⟩) (λ_=>rfl) c).setCell (p:=⟨g,_,O⟩) (λ_=>rfl) b).setCell (p:=⟨g,_,O⟩) (λ_=>rfl) f).setCell (p:=⟨g,_,O⟩) (λ_=>rfl) j).setCell (p:=⟨g,_,O⟩) (λ_=>rfl) a).setCell (p:=⟨g,_,O⟩) (λ_=>rfl) d).setCell (p:=⟨g,_,O⟩) (λ_=>rfl) e).setCell (p:=⟨g,_,O⟩) (λ_=>rfl) i)⟩,⟨?_,(((((((((ξ (·=g) w).setCell (p:=⟨g,_,O⟩) (λ_=>rfl) a).setCell (p:=⟨g,_,O⟩) (λ_=>rfl) d).setCell (p:=⟨g,_,O⟩) (λ_=>rfl) e).setCell (p:=⟨g,_,O⟩) (λ_=>rfl) i).setCell (p:=⟨g,_,O⟩) (λ_=>rfl) c).setCell (p:=⟨g,_,O⟩) (λ_=>rfl) b).setCell (p:=⟨g,_,O⟩) (λ_=>rfl) f).setCell (p:=⟨g,_,O⟩) (λ_=>rfl) j)⟩⟩
 ·have:=(aQ (aQ (aQ (aQ (aQ (aQ (aQ (aQ n (X.length) c) (X.length+1) b) (X.length+2) f) (X.length+3) j) ((X.length+4)) a) ((X.length+4)+1) d) ((X.length+4)+2) e) ((X.length+4)+3) i)
  simpa [List.set_append_right,Nat.add_assoc]using this
 ·have:=(aQ (aQ (aQ (aQ (aQ (aQ (aQ (aQ n ((X.length+4)) a) ((X.length+4)+1) d) ((X.length+4)+2) e) ((X.length+4)+3) i) (X.length) c) (X.length+1) b) (X.length+2) f) (X.length+3) j)
  simpa [List.set_append_right,Nat.add_assoc]using this
end
def pcs(p:Tp.Sc × Nat):List Value:=[V I p.1.k,V I p.1.n,xR p.1.s,V I (p.2:Int)]
def scs(p:Tp.Sc):List Value:=[V I p.k,V I p.n,xR p.s]
theorem qJ:∀l:List (Tp.Sc × Nat),(l.flatMap pcs).length=l.length * 4
 | []=>rfl
 |x::r=>by rw[List.flatMap_cons,zP,qJ r,zO];simp[pcs];omega
theorem uq(p q:Tp.Sc × Nat)(w:World):Calls π 169 #[γ (pcs p).toArray,γ (pcs q).toArray] w λe w'=>e=ρ (V I (za p.1 q.1))/\Below w.heap.size w w':=by
 obtain⟨⟨k,n,s⟩,j⟩:=p;obtain⟨⟨f,c,d⟩,o⟩:=q;have a:=λr=>mQ ⟨k,n,s⟩ ⟨f,c,d⟩ r;unfold scV at a;unfold pcs;simp only at a ⊢;obtain⟨y,l⟩:∃b,xR s=U b:=⟨_,rfl⟩;obtain⟨u,m⟩:∃b,xR d=U b:=⟨_,rfl⟩;rw[l,m]at a ⊢;generalize za ⟨k,n,s⟩ ⟨f,c,d⟩=A at *;have g:Below w.heap.size w ((w.alloc (J #[V I k,V I n,U y,V I (j:Int)] 262)).alloc (J #[V I f,V I c,U u,V I (o:Int)] 262)):=((ζ _ _).alloc (η _) _).alloc (by simp) _;obtain⟨v,t⟩:=zx2 a g;clear a g l m
 go_enter func169,ntmps169
 go_wp2_with fail
 refine(v.out _).mono ?_;rintro e z ⟨rfl,i⟩;have x:=cR t.out i;clear i
 go_wp2_with fail
 go_ret
 exact⟨rfl,x⟩
theorem rr(l:List (Tp.Sc × Nat))(g cap f:Nat)(b8:l.length=f)(X:1<=f)(dm:f<=100000)(w:World)(b5:PR w g (l.flatMap pcs)):
 Calls π 249 #[Y (W ⟨g,0,O⟩) f cap,V I 0,V I (f:Int),φ (.func 169) #[] #[]] w λe w'=>(∃y,e=ρ y)/\PR w' g ((yq Prod.fst l).flatMap pcs)/\Far (·=g) w w':=by
 have bn:(yq Prod.fst (l.take 1)++l.drop 1)=l:=by
  cases l with
  |nil=>simp at b8;omega
  |cons x r=>rfl
 have b6:PR w g ((yq Prod.fst (l.take 1)++l.drop 1).flatMap pcs):=by rw[bn];exact b5
 have c3:=zD b6;clear b5 b6 bn
 go_enter func249,ntmps249
 go_wp2_with fail
 go_loopw [8] (λa4 wr=>∃i:Nat,a4=V I (i:Int)/\1<=i/\i<=f/\PR wr g ((yq Prod.fst (l.take i)++l.drop i).flatMap pcs)/\Far (·=g) w wr) (λa4 _=>f - (Lib.intOf a4).toNat)
 case atStart=>exact⟨1,rfl,η _,X,c3.out,ξ _ _⟩
 case round=>
  obtain⟨i,rfl,db,dn,A,T⟩:=hrel;by_cases cf:i < f
  ·obtain⟨p,a3⟩:∃x,l[i]? =W x:=⟨_,zE (by rw[b8];exact cf)⟩
   have cm:(yq Prod.fst (l.take i)).length=i:=by rw[cg,List.length_take];omega
   have b2:l.drop i=p::l.drop (i+1):=aE l i p a3;have cv:=od Prod.fst l i p a3;rw[b2]at A;have ch:(i:Int) < (f:Int):=by omega
   obtain⟨b9,cl,b3⟩:=zx3 A T cm;clear A T b2 a3
   go_wp2_with fail
   go_loopw [9] (λan bR=>∃s B,an=V I ((s.length:Nat):Int)/\(s++B:List (Tp.Sc × Nat))=yq Prod.fst (l.take i)/\(∀M,B.head? =W M->Tp.scLt (Prod.fst p) (Prod.fst M)=true)/\PR bR g ((s++p::(B++l.drop (i+1))).flatMap pcs)/\Far (·=g) w bR) (λan _=>(Lib.intOf an).toNat)
   case atStart=>exact⟨yq Prod.fst (l.take i),[],by rw[b3.out],List.append_nil _,λM d=>by simp at d,by simpa using b9.out,cl.out⟩
   case round=>
    obtain⟨s,B,rfl,F,bw,u,S⟩:=hrel;have E:(∀a,s.getLast? =W a->Tp.scLt (Prod.fst p) (Prod.fst a)=false)->∀b,PR b g ((s++p::(B++l.drop (i+1))).flatMap pcs)->PR b g ((yq Prod.fst (l.take (i+1))++l.drop (i+1)).flatMap pcs):=λct b d=>by
     rw[cv,rq Prod.fst p _ s B F (lT Prod.fst _) ct bw]
     simpa using d
    rcases List.eq_nil_or_concat s with rfl|⟨o,a,rfl⟩
    ·have bs:=E (λa d=>by simp at d) wr u
     obtain⟨ck,v⟩:=zx2 bs S;have H:((([]:List (Tp.Sc × Nat)).length:Nat):Int)=0:=rfl;rw[H];clear E u S bw F bs
     go_wp2_with fail
     refine wp_region_noPanic ?_;refine ar (λ_=>True) [] (by kernel_rfl) ?_;refine aJ (by kernel_rfl) (λ_ _ _ _ d=>d) trivial 0 [0,1,2,3,4,5,6,7,8,9,10,11,12,13,14,15,16] _ _ (by kernel_rfl) ?_;iterate 4 (refine Ei ?_;(try go_frame))
     iterate 12 (refine aB rfl (by simp only[zH,zI,zJ];rfl) (by kernel_rfl) ?_;(try go_frame))
     iterate 1 (refine Ei ?_;(try go_frame))
     refine xT.done ?_;try dsimp only
     refine aP (by kernel_rfl) (NoPanic.normal ?_) _
     go_wp2_with fail
     go_roundw
     case rel=>exact⟨i+1,by go_num,by omega,by omega,ck.out.far ((ξ xO _).drew) (λe=>e),v.out.drew⟩
     case measure=>simp[Lib.intOf];omega
    ·rw[List.concat_eq_append]at F u E ⊢
     obtain⟨m,av⟩:∃m,o.length=m:=⟨_,rfl⟩;have dg:m+1<=i:=by
      have X:=congrArg List.length F;rw[b3.out]at X;simp at X
      omega
     have bm:(o.flatMap pcs).length=m * 4:=by rw[<-av];exact qJ o
     have P:((o++[a])++p::(B++l.drop (i+1))).flatMap pcs=o.flatMap pcs++[V I a.1.k,V I a.1.n,xR a.1.s,V I (a.2:Int),V I p.1.k,V I p.1.n,xR p.1.s,V I (p.2:Int)]++(B++l.drop (i+1)).flatMap pcs:=by simp[List.flatMap_append,List.flatMap_cons,pcs]
     have ad:(o++p::(a::B++l.drop (i+1))).flatMap pcs=o.flatMap pcs++[V I p.1.k,V I p.1.n,xR p.1.s,V I (p.2:Int),V I a.1.k,V I a.1.n,xR a.1.s,V I (a.2:Int)]++(B++l.drop (i+1)).flatMap pcs:=by simp[List.flatMap_append,List.flatMap_cons,pcs]
     have a0:=λb=>uq p a b;obtain⟨k,bq⟩:∃k,m+1=k:=⟨_,rfl⟩;rw[show (((o++[a]).length:Nat):Int)=(k:Int)by simp[av,<-bq]];have dr:IntKind.i64.wrap ((k:Int) - 1)=(m:Int):=by rw[<-bq,show (((m+1:Nat):Int) - 1)=(m:Int)by omega];exact zU _ (by omega)
     rw[P]at u;have n:∀(j:Nat) (y:Value),[V I a.1.k,V I a.1.n,xR a.1.s,V I (a.2:Int),V I p.1.k,V I p.1.n,xR p.1.s,V I (p.2:Int)][j]? =W y->wr.cell? ⟨g,m * 4+j,O⟩=W y:=λj y be=>u.cell (by
      have ca:=(zM.1 be).1;rw[List.append_assoc,zV (by omega),bm,Nat.add_sub_cancel_left,List.getElem?_append_left ca];exact be)
     have a2:=λ(b:World) (d:PR b g (o.flatMap pcs++[V I a.1.k,V I a.1.n,xR a.1.s,V I (a.2:Int),V I p.1.k,V I p.1.n,xR p.1.s,V I (p.2:Int)]++(B++l.drop (i+1)).flatMap pcs))=>xf d bm (k:=k * 4) (by omega);have bx:=λ(b:World) (d:PR b g (o.flatMap pcs++[V I a.1.k,V I a.1.n,xR a.1.s,V I (a.2:Int),V I p.1.k,V I p.1.n,xR p.1.s,V I (p.2:Int)]++(B++l.drop (i+1)).flatMap pcs))=>d.frozen;obtain⟨R,b4⟩:∃al,xR p.1.s=U al:=⟨_,rfl⟩;obtain⟨L,b1⟩:∃al,xR a.1.s=U al:=⟨_,rfl⟩;have co:=λj y d=>n j y d;rw[b4,b1]at n a2 bx u ad P;simp only[pcs,b4,b1]at a0;have H:∀b,Far xO wr b->b.cell? ⟨g,m * 4,O⟩=W (V I a.1.k)/\b.cell? ⟨g,m * 4+1,O⟩=W (V I a.1.n)/\b.cell? ⟨g,m * 4+2,O⟩=W (U L)/\b.cell? ⟨g,m * 4+3,O⟩=W (V I (a.2:Int))/\b.cell? ⟨g,k * 4,O⟩=W (V I p.1.k)/\b.cell? ⟨g,k * 4+1,O⟩=W (V I p.1.n)/\b.cell? ⟨g,k * 4+2,O⟩=W (U R)/\b.cell? ⟨g,k * 4+3,O⟩=W (V I (p.2:Int)):=λb t=>⟨t.at (n 0 _ rfl) id,t.at (n 1 _ rfl) id,t.at (n 2 _ rfl) id,t.at (n 3 _ rfl) id,(by have:=t.at (n 4 _ rfl) id;rw[show k * 4=m * 4+4 by omega];exact this),(by have:=t.at (n 5 _ rfl) id;rw[show k * 4+1=m * 4+5 by omega];exact this),(by have:=t.at (n 6 _ rfl) id;rw[show k * 4+2=m * 4+6 by omega];exact this),(by have:=t.at (n 7 _ rfl) id;rw[show k * 4+3=m * 4+7 by omega];exact this)⟩;obtain⟨c2,cT,ac,z⟩:=zx4 a2 E H a0;have dJ:(k:Int) < (f:Int):=by omega
     have dj:(0:Int)<=(k:Int):=by omega
     have dc:(0:Int) < (k:Int):=by omega
     have dv:0 < k:=by omega
     have dW:(m:Int) < (f:Int):=by omega
     have dl:(0:Int)<=(m:Int):=by omega
     obtain⟨bk,c0,cb⟩:=zx3 u ad P;clear E u n a2 a0 H co ad P bx;have v:=zD S;clear S;cases ab:Tp.scLt (Prod.fst p) (Prod.fst a) with
     |true=>
      have D:za (Prod.fst p) (Prod.fst a)=-1:=by unfold za;rw[ab];rfl
      replace z:RowKit.Hid _:=zD (λb=>D ▸ z.out b)
      clear D
      go_wp2_with fail
      go_region_held3 (λb=>b.cell? ⟨g,m * 4,O⟩=W (V I a.1.k)/\b.cell? ⟨g,m * 4+1,O⟩=W (V I a.1.n)/\b.cell? ⟨g,m * 4+2,O⟩=W (U L)/\b.cell? ⟨g,m * 4+3,O⟩=W (V I (a.2:Int))/\b.cell? ⟨g,k * 4,O⟩=W (V I p.1.k)/\b.cell? ⟨g,k * 4+1,O⟩=W (V I p.1.n)/\b.cell? ⟨g,k * 4+2,O⟩=W (U R)/\b.cell? ⟨g,k * 4+3,O⟩=W (V I (p.2:Int))) (exact ac.out _ (by repeat (first|exact ξ _ _|assumption|refine Far.drew ?_|refine Far.alloc ?_ _|refine Far.drewN ?_ _))) (first|(go_at_call 169;refine(z.out wr.drew).mono ?_;rintro e C ⟨rfl,G⟩;have q:Far xO wr C:=((ξ _ wr).drew).below G))
      have c:=bk.out.far q (λe=>e);obtain⟨⟨a1,b0⟩,⟨a5,bb⟩⟩:=c2.out C c;obtain⟨da,dC,c6,dp,dA,di,d1,c4⟩:=ac.out C q;have u0:=c.frozen (m * 4);have u1:=c.frozen (m * 4+1);have u2:=c.frozen (m * 4+2);have u3:=c.frozen (m * 4+3);have c9:=c.frozen (k * 4);have c5:=c.frozen (k * 4+1);have ds:=c.frozen (k * 4+2);have df:=c.frozen (k * 4+3);rw[<-c0.out]at a1 a5;have cc:=zD (a1.far ((ξ xO _).drew) (λe=>e));have c1:=zD (a5.far ((ξ xO _).drew) (λe=>e));have ao:=zD ((v.out.trans ((q.mono (D':=(·=g)) (λ_ _ e=>e.elim)).trans b0)).drew);have cS:=zD ((v.out.trans ((q.mono (D':=(·=g)) (λ_ _ e=>e.elim)).trans bb)).drew);clear c a1 a5 b0 bb q G
      go_wp2_with fail
      go_region
      all_goals (
       go_wp2_with fail
       go_roundw
       case rel=>
        refine⟨o,a::B,by rw[av],by rw[<-F];simp,λM a9=>by simp at a9;rw[<-a9];exact ab,?_,?_⟩
        ·first|(with_reducible exact cc.out)|(with_reducible exact c1.out)
        ·first|(with_reducible exact ao.out)|(with_reducible exact cS.out)
       case measure=>simp[Lib.intOf];omega)
     |false=>
      obtain⟨N,D⟩:∃N,za (Prod.fst p) (Prod.fst a)=N:=⟨_,rfl⟩;have d0:¬N < 0:=by rw[<-D];unfold za;rw[ab];simp;split<;>omega
      have bD:∀b,Calls π 169 #[γ #[V I p.1.k,V I p.1.n,U R,V I (p.2:Int)],γ #[V I a.1.k,V I a.1.n,U L,V I (a.2:Int)]] b λe w'=>e=ρ (V I N)/\Below b.heap.size b w':=λb=>D ▸ z.out b
      replace z:=zD bD
      clear D bD
      go_wp2_with fail
      go_region_held3 (λb=>b.cell? ⟨g,m * 4,O⟩=W (V I a.1.k)/\b.cell? ⟨g,m * 4+1,O⟩=W (V I a.1.n)/\b.cell? ⟨g,m * 4+2,O⟩=W (U L)/\b.cell? ⟨g,m * 4+3,O⟩=W (V I (a.2:Int))/\b.cell? ⟨g,k * 4,O⟩=W (V I p.1.k)/\b.cell? ⟨g,k * 4+1,O⟩=W (V I p.1.n)/\b.cell? ⟨g,k * 4+2,O⟩=W (U R)/\b.cell? ⟨g,k * 4+3,O⟩=W (V I (p.2:Int))) (exact ac.out _ (by repeat (first|exact ξ _ _|assumption|refine Far.drew ?_|refine Far.alloc ?_ _|refine Far.drewN ?_ _))) (first|(go_at_call 169;refine(z.out wr.drew).mono ?_;rintro e C ⟨rfl,G⟩;have q:Far xO wr C:=((ξ _ wr).drew).below G))
      have c:=cT.out (λx ba=>by simp at ba;rw[<-ba];exact ab) C (by rw[cb.out];exact bk.out.far q (λe=>e));have ao:=zD (v.out.trans (q.mono (D':=(·=g)) (λ_ _ e=>e.elim)));have a6:=zD c;clear c q G
      go_wp2_with fail
      go_roundw
      case rel=>exact⟨i+1,by go_num,by omega,by omega,a6.out,ao.out⟩
      case measure=>simp[Lib.intOf];omega
  ·obtain rfl:i=f:=by omega
   have c:PR wr g ((yq Prod.fst l).flatMap pcs):=by
    rw[zR (by omega),List.drop_of_length_le (by omega)]at A
    simpa using A
   obtain⟨a6,v⟩:=zx2 c T;have ch:¬(i:Int) < (i:Int):=by omega
   clear c A T
   go_wp2_with fail
   go_end0
   exact⟨⟨_,rfl⟩,a6.out,v.out⟩
theorem qa(l:List (Tp.Sc × Nat))(g cap a:Nat)(q:l.length=a)(n:1<=a)(u:a < 20)(w:World)(j:PR w g (l.flatMap pcs)):
 Calls π 168 #[Y (W ⟨g,0,O⟩) a cap,φ (.func 169) #[] #[]] w λe w'=>(∃c,e=ρ c)/\PR w' g ((yq Prod.fst l).flatMap pcs)/\Far (·=g) w w':=by
 have k:=rr l g cap a q n (by omega) w j;have o:=zD k;have t:¬(20:Int)<=(a:Int):=by omega
 have s:¬(20:Int) < (a:Int):=by omega
 have r:¬20<=a:=by omega
 have v:¬20 < a:=by omega
 clear k j
 go_enter func168,ntmps168
 go_wp2_with fail
 have p:Calls π 217 #[Y (W ⟨g,0,O⟩) a cap,V I (a:Int),φ (.func 169) #[] #[]] w λe w'=>(∃c,e=ρ c)/\PR w' g ((yq Prod.fst l).flatMap pcs)/\Far (·=g) w w':=by
  go_enter func217,ntmps217
  go_wp2_with fail
  refine wp_loop_rounds 1 ?_;rw[rounds_succ]
  go_wp2_with fail
  refine o.out.mono ?_;rintro e m ⟨⟨c,rfl⟩,b,d⟩;obtain⟨i,f⟩:=zx2 b d;clear b d
  go_wp2_with fail
  refine wp_loop_rounds 1 ?_;rw[rounds_succ]
  go_wp2_with fail
  go_end0
  exact⟨⟨_,rfl⟩,i.out,f.out⟩
 refine p.mono ?_;rintro e m ⟨⟨c,rfl⟩,b,d⟩;obtain⟨i,f⟩:=zx2 b d;clear b d
 go_wp2_with fail
 go_end0
 exact⟨⟨_,rfl⟩,i.out,f.out⟩
theorem gK(g j:Nat):(⟨g,0,O⟩:Addr).add j=⟨g,j,O⟩:=by unfold Addr.add;split<;>simp_all
theorem bK{w:World}{base:Nat}{e:TypeId}{size g n cap:Nat}{xs:List Value}(a:w.ownsRow base e size (Y (W ⟨g,0,O⟩) n cap) n xs):PR w g xs:=by
 obtain⟨c,b⟩:=aU a;refine⟨c,e,b,λi d f=>?_⟩;have:=a.cells (g:=g) rfl i d f;rw[gK]at this;exact(ae b i).symm.trans this
theorem ja{w:World}{base:Nat}{e:TypeId}{size g n cap:Nat}{xs:List Value}(a:w.ownsRow base e size (Y (W ⟨g,0,O⟩) n cap) n xs):n<=cap/\cap<=maxLen:=by
 rcases a.2 with ⟨a,_⟩|⟨l,k,f,b,j,i,d,c,_⟩
 ·cases a
 ·injection b with b e1 e2
  subst e2;exact⟨d,c⟩
theorem vD:(prog.info? 262).map (λi=>(i.zero,i.size,i.bytes))=W (W (γ #[V I 0,V I 0,U ⟨#[]⟩,V I 0]),4,40):=by kernel_rfl
theorem oK(K k l c:Int)(a:ByteArray)(d f:Option Addr)(j g b i:Nat)(w:World)(m:K≠2):Calls π 122 #[γ #[V I K,V I k,V I l,U a,Y d j b,Y f g i,V I c]] w λe w'=>e=ρ (Y O 0 0)/\Below w.heap.size w w':=by
 have o:¬K=2:=m;have n:Below w.heap.size w (w.alloc (J #[V I K,V I k,V I l,U a,Y d j b,Y f g i,V I c] 256)):=(ζ _ _).alloc (η _) _
 go_enter func122,ntmps122
 go_wp2_with fail
 go_ret
 exact⟨rfl,n⟩
theorem oL(N P R:Int)(r:ByteArray)(E F:Option Addr)(H m a:Nat)(g:List Tp.Sc)(l:List Nat)(cb:NS)(w:World)(ej:g.length=a)(dn:l.length=a)(el:1<=a)(ds:a < 20)(b5:Row w cb a (Y E a H) (xV g))(b4:Row w cb a (Y F a m) (xP l)):
 Calls π 122 #[γ #[V I 2,V I N,V I P,U r,Y E a H,Y F a m,V I R]] w λe w'=>(∃v,e=ρ v/\Row w' (New w) a v ((yq Prod.fst (g.zip l)).flatMap pcs))/\Below w.heap.size w w':=by
 obtain⟨dJ,ef,dp,en,d2⟩:=info_parts vD;have ch:=λb=>cQ 2 N P R r E F a a H m b rfl;have a6:=af w (J #[V I 2,V I N,V I P,U r,Y E a H,Y F a m,V I R] 256);obtain⟨d,a9⟩:∃d,w.heap.size=d:=⟨_,rfl⟩;have f:Far xO w (w.alloc (J #[V I 2,V I N,V I P,U r,Y E a H,Y F a m,V I R] 256)):=(ξ _ w).alloc _;rw[a9]at a6;obtain⟨ct,ba,ca,bx,bq,ab⟩:=zx6 ch a6 f b5 b4 a9;obtain⟨dg,d1,ek,dC,da,dr,ep,_⟩:=bd a6;clear ch a6 f b5 b4
 go_enter func122,ntmps122
 go_upto_region 1 with (fail)
 generalize (w.alloc (J #[V I 2,V I N,V I P,U r,Y E a H,Y F a m,V I R] 256))=e0 at *;clear a9
 go_wp2_with fail
 refine(ct.out _).mono ?_;rintro e ei ⟨rfl,b3⟩;have c2:=ca.out.below b3;have a5:=(b3.block d (lt_of_heap ba.out)).trans ba.out;obtain⟨a4,a1,an,c3,c4,c5,a3,_⟩:=bd a5;have e1:d < ei.heap.size:=lt_of_heap a5;obtain⟨dj,df⟩:=zx2 c2 a5;clear b3 c2 a5 dg d1 ek dC da dr ep ca ba ct
 go_wp2_with fail
 go_loopw [3,19] (λeg bw wr=>∃(t:Nat) (M:Option Addr) (L p:Nat),eg=Y M L p/\t<=a/\bw=V I (t:Int)/\wr.ownsRow (d+1) 262 4 (Y M L p) t (((g.zip l).take t).flatMap pcs)/\Far xO w wr/\wr.heap[d]? =W (J #[V I 2,V I N,V I P,U r,Y E a H,Y F a m,V I R] 256 (0,0))) (λ_ bw _=>a - (Lib.intOf bw).toNat)
 case atStart=>exact⟨0,_,_,_,rfl,z_ _,rfl,World.ownsRow_nil _ _ _ _,dj.out,df.out⟩
 case round=>
  obtain⟨t,M,L,p,rfl,eM,rfl,y,z,al⟩:=hrel;by_cases b9:t < a
  ·obtain⟨x,be⟩:∃x,g[t]? =W x:=⟨_,zE (by rw[ej];exact b9)⟩
   obtain⟨G,bD⟩:∃x,l[t]? =W x:=⟨_,zE (by rw[dn];exact b9)⟩;obtain⟨e9,ex,e2,bk,_,es,b2,b1,av⟩:=bx.out.sc be;obtain⟨X,a2,e8,cm,_,e7,u⟩:=bq.out.nat bD;injection bk with e11 e12 e13;injection cm with e21 e22 e23;subst e11 e13 e21 e23;obtain⟨SX,bn⟩:∃r,xR x.s=U r:=⟨_,rfl⟩;rw[bn]at av
   replace b2:=z.at b2 id
   replace b1:=z.at b1 id
   replace av:=z.at av id
   replace u:=z.at u id
   have dW:((g.zip l).take (t+1)).flatMap pcs=((g.zip l).take t).flatMap pcs++[V I x.k,V I x.n,U SX,V I (G:Int)]:=by
    have:(g.zip l)[t]? =W (x,G):=by rw[List.getElem?_zip_eq_some];exact⟨be,bD⟩
    rw[zG,this,List.flatMap_append];simp[pcs,bn]
   have dm:(t:Int) < (a:Int):=by omega
   have e4:(0:Int)<=(t:Int):=by omega
   obtain⟨S,o,ac⟩:=zx3 y z al;obtain⟨a4,a1,an,c3,c4,c5,a3,_⟩:=bd al;clear y z al be bD bn bx bq
   go_upto_region 7 with (fail)
   obtain⟨q,dl⟩:∃q,wr.heap.size=q:=⟨_,rfl⟩;have bm:=af wr (J #[V I x.k,V I x.n,U SX] 30);have T:Far xO wr (wr.alloc (J #[V I x.k,V I x.n,U SX] 30)):=(ξ _ wr).alloc _;rw[dl]at bm ⊢;have b8:=aw S.out T (λ_ _ _ e=>e);have C:∀k,(Value.slice M L p).ownBlock=W k->d+1<=k/\k < q:=λk c=>by have:=S.out.lt k c;omega
   have e6:X < d:=by have:=ab.out;omega
   have bs:=T.heap ac.out (λe=>e);have cc:=o.out.trans T
   replace u:=T.at u id
   clear a4 a1 an c3 c4 c5 a3 T S ac o b2 b1 av;generalize (wr.alloc (J #[V I x.k,V I x.n,U SX] 30))=D at *;obtain⟨a4,a1,an,c3,c4,c5,a3,_⟩:=bd bs;obtain⟨ao,a0,ad,_⟩:=bv bm;obtain⟨S,ac,o⟩:=zx3 b8 bs cc;clear b8 bs cc a4 a1 an c3 c4 a3 bm;refine wp_region_noPanic ?_;refine ar (λb=>b.cell? ⟨d,5,O⟩=W (Y (W ⟨X,a2,O⟩) a m)/\b.cell? ⟨q,0,O⟩=W (V I x.k)/\b.cell? ⟨q,1,O⟩=W (V I x.n)/\b.cell? ⟨q,2,O⟩=W (U SX)/\b.cell? ⟨X,a2+t,O⟩=W (V I (G:Int))) [] (by kernel_rfl) ?_;refine aJ (by kernel_rfl) (λ_ _ _ _ c=>c) ⟨c5,ao,a0,ad,u⟩ 3 [0,1,2,3,4,5,6,7,8] _ _ (by kernel_rfl) ?_;iterate 9 (refine Ei ?_;(try go_frame))
   refine xT.done ?_;try dsimp only
   refine aq [9] ?_;refine aj rfl (λK A=>?_) xQ.nil
   go_simp
   have f:Far xO D (D.drew.alloc (J #[V I x.k,V I x.n,U SX,V I (G:Int)] 262)):=(ξ _ D).drew.alloc _;refine A.out _ _ (λ_=>⟨f.at c5 id,f.at ao id,f.at a0 id,f.at ad id,f.at u id⟩) ?_;clear A K
   (try go_frame)
   refine aq [10] ?_;refine aj rfl (λK A=>?_) xQ.nil;refine wp_append_own _ (.tmp 24) (.tmp 33) 259 rfl (d+1) 262 dJ _ 4 40 underlying259 ef dp en d2 rfl (by decide) (Y M L p) t _ rfl (aw S.out f (λ_ _ _ e=>e)) ⟨D.heap.size,0,O⟩ 1 1 [V I x.k,V I x.n,U SX,V I (G:Int)] ?_ rfl ?_ ?_ ?_ ?_ ?_ ?_
   ·rfl
   ·intro j co di
    rw[gK];exact(ae (af D.drew (J #[V I x.k,V I x.n,U SX,V I (G:Int)] 262)) j).trans (by simpa using di)
   ·simp[Value.oneCell']
   ·unfold maxLen;omega
   ·omega
   ·have:=ab.out;have:=o.out.size;show d+1<=(D.drew.alloc _).heap.size;simp;omega
   intro e5 w5 b0 c6 _;have s:Far (λk=>(Value.slice M L p).ownBlock=W k) D w5:=(f.mono (λ_ _ e=>e.elim)).grown c6 (λk e _=>e);have b6:(λb:World=>b.cell? ⟨d,5,O⟩=W (Y (W ⟨X,a2,O⟩) a m)/\b.cell? ⟨q,0,O⟩=W (V I x.k)/\b.cell? ⟨q,1,O⟩=W (V I x.n)/\b.cell? ⟨q,2,O⟩=W (U SX)/\b.cell? ⟨X,a2+t,O⟩=W (V I (G:Int))) w5:=⟨s.at c5 (λc=>by have:=C _ c;simp at this;omega),s.at ao (λc=>by have:=C _ c;simp at this),s.at a0 (λc=>by have:=C _ c;simp at this),s.at ad (λc=>by have:=C _ c;simp at this),s.at u (λc=>by have:=C _ c;simp at this;omega)⟩;have cf:=zD b6;clear b6;refine A.out _ _ (λ_=>cf.out) ?_;clear A K
   (try go_frame)
   obtain⟨gg,cap,rfl,d5,_⟩:=aA b0;have bb:=b0;rw[<-dW]at bb;have cT:=o.out.step s (λk er e=>by have:=C _ e;have:=ab.out;omega);have c9:=s.heap ac.out (λe=>by have:=C _ e;omega);obtain⟨d3,d6,dA⟩:=zx3 bb cT c9;clear b0 bb c6 s cT c9 S o ac f c5 ao a0 ad u;refine aq [11] ?_;refine aj rfl (λK A=>?_) xQ.nil
   go_simp
   refine A.out _ _ (λ_=>cf.out) ?_;clear A K
   (try go_frame)
   refine aP (by kernel_rfl) (NoPanic.normal ?_) _
   go_wp2_with fail
   go_roundw
   case rel=>exact⟨t+1,_,_,_,rfl,by omega,by go_num,d3.out,d6.out,dA.out⟩
   case measure=>simp[Lib.intOf];omega
  ·obtain rfl:t=a:=by omega
   have dm:¬(t:Int) < (t:Int):=by omega
   obtain⟨n,c0⟩:∃n,t=n+1:=⟨t - 1,by omega⟩;have dc:(g.zip l).length=t:=by rw[List.length_zip];omega
   rw[zR (by omega)]at y;obtain⟨gg,cap,e,d5,_⟩:=aA (n:=n) (by rw[<-c0];exact y);injection e with bk cm e3;subst bk e3;rw[show L=t by omega]at y ⊢;have db:=ja y;have cS:=qa (g.zip l) gg p t dc el ds wr (bK y);obtain⟨c1,o⟩:=zx2 cS z;clear cS y z al bx bq c0
   go_wp2_with fail
   refine c1.out.mono ?_;rintro e eq ⟨⟨co,rfl⟩,bR,ck⟩;have cv:Row eq (New w) t (Y (W ⟨gg,0,O⟩) t p) ((yq Prod.fst (g.zip l)).flatMap pcs):=⟨_,gg,0,p,rfl,db,λ_=>by have:=ab.out;show w.heap.size<=gg;omega,λ_=>⟨rfl,bR.lt,λi co d4=>by rw[Nat.zero_add];exact bR.cell d4⟩⟩;have cl:=o.out.new (by have:=ab.out;omega) ck;clear bR ck c1 o;obtain⟨d0,dv⟩:=zx2 cv cl;clear cv cl
   go_wp2_with fail
   go_ret
   exact⟨⟨_,rfl,d0.out⟩,dv.out⟩
theorem og(w:World):Calls π 168 #[Y O 0 0,φ (.func 169) #[] #[]] w λe w'=>(∃a,e=ρ a)/\w'=w:=by
 have b:Calls π 249 #[Y O 0 0,V I 0,V I 0,φ (.func 169) #[] #[]] w λe w'=>(∃a,e=ρ a)/\w'=w:=by
  go_enter func249,ntmps249
  go_wp2_with fail
  refine wp_loop_rounds 1 ?_;rw[rounds_succ]
  go_wp2_with fail
  go_end0
  exact⟨⟨_,rfl⟩,rfl⟩
 have c:Calls π 217 #[Y O 0 0,V I 0,φ (.func 169) #[] #[]] w λe w'=>(∃a,e=ρ a)/\w'=w:=by
  have g:=zD b;clear b
  go_enter func217,ntmps217
  go_wp2_with fail
  refine wp_loop_rounds 1 ?_;rw[rounds_succ]
  go_wp2_with fail
  refine g.out.mono ?_;rintro e f ⟨⟨a,rfl⟩,rfl⟩
  go_wp2_with fail
  refine wp_loop_rounds 1 ?_;rw[rounds_succ]
  go_wp2_with fail
  go_end0
  exact⟨⟨_,rfl⟩,rfl⟩
 have d:=zD c;clear b c
 go_enter func168,ntmps168
 go_wp2_with fail
 refine d.out.mono ?_;rintro e f ⟨⟨a,rfl⟩,rfl⟩
 go_wp2_with fail
 go_end0
 exact⟨⟨_,rfl⟩,rfl⟩
theorem oJ(d f g:Int)(a:ByteArray)(i j:Option Addr)(c b:Nat)(w:World):Calls π 122 #[γ #[V I 2,V I d,V I f,U a,Y i 0 c,Y j 0 b,V I g]] w λe w'=>e=ρ (Y O 0 0)/\Below w.heap.size w w':=by
 have q:=λt=>cQ 2 d f g a i j 0 0 c b t rfl;have n:Below w.heap.size w (w.alloc (J #[V I 2,V I d,V I f,U a,Y i 0 c,Y j 0 b,V I g] 256)):=(ζ _ _).alloc (η _) _;have m:=af w (J #[V I 2,V I d,V I f,U a,Y i 0 c,Y j 0 b,V I g] 256);obtain⟨C,y,u,A,v,s,z,_⟩:=bd m;obtain⟨r,o,l⟩:=zx3 q n m;clear q n m
 go_enter func122,ntmps122
 go_wp2_with fail
 refine(r.out _).mono ?_;rintro e D ⟨rfl,k⟩;have p:=cR o.out k;obtain⟨E,F,G,c3,c4,c5,L,_⟩:=bd ((k.block w.heap.size (lt_of_heap l.out)).trans l.out);have x:=zD p;clear k p o l r C y u A v s z
 go_wp2_with fail
 refine wp_loop_rounds 1 ?_;rw[rounds_succ]
 go_wp2_with fail
 refine(og _).mono ?_;rintro e M ⟨⟨H,rfl⟩,rfl⟩
 go_wp2_with fail
 go_ret
 exact⟨rfl,x.out⟩
def yx(x:Tp.Nd):Prop:=x.keys.length < 20/\(x.k=2->x.keys.length=x.kids.length)/\x.kids.length<=100000
theorem cA(x:Tp.Nd)(kv j:Value)(n:Nat)(d:NS)(w:World)(k:Row w d x.keys.length kv (xV x.keys))(i:Row w d x.kids.length j (xP x.kids))(l:yx x):Calls π 122 #[yH x kv j n] w λe w'=>(∃v,e=ρ v/\Row w' (New w) (Tp.pairs x).length v ((Tp.pairs x).flatMap pcs))/\Below w.heap.size w w':=by
 obtain⟨u,t,rfl,_⟩:=k.form;obtain⟨y,s,rfl,_⟩:=i.form;unfold yH;by_cases a:x.k=2
 ·have g:=l.2.1 a
  have f:Tp.pairs x=Tp.sort (x.keys.zip x.kids):=by unfold Tp.pairs;rw[if_pos ⟨a,g⟩]
  rw[f,<-ce,a];rcases Nat.eq_zero_or_pos x.keys.length with b|b
  ·have r:x.kids.length=0:=by omega
   rw[b,r];have p:yq Prod.fst (x.keys.zip x.kids)=[]:=by rw[List.length_eq_zero_iff.1 b];rfl
   rw[p];refine(oJ _ _ _ _ _ _ _ _ w).mono ?_;rintro e w' ⟨rfl,c⟩;exact⟨⟨_,rfl,cy _ _⟩,c⟩
  ·have o:(yq Prod.fst (x.keys.zip x.kids)).length=x.keys.length:=by rw[cg,List.length_zip];omega
   rw[o];have m:=i;rw[<-g]at m ⊢;exact oL _ _ _ _ _ _ _ _ _ x.keys x.kids d w rfl g.symm b l.1 k m
 ·have f:Tp.pairs x=[]:=by unfold Tp.pairs;rw[if_neg (λq=>a q.1)]
  rw[f];refine(oK _ _ _ _ _ _ _ _ _ _ _ w a).mono ?_;rintro e w' ⟨rfl,c⟩;exact⟨⟨_,rfl,cy _ _⟩,c⟩
end Go.Proofs.YtbikgdhbiebhcaaGreatDoor
