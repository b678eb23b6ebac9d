/- Part 5. -/
import Derived.Test.YtbikgdhbiebhcaaGreatDoorW04
set_option linter.unusedVariables false
set_option linter.unusedSimpArgs false
set_option maxRecDepth 100000
set_option maxHeartbeats 2000000
open Go.Value renaming int -> V, string -> U, slice -> Y, pointer -> Z, func -> φ, agg -> γ, bool -> β
open Go.IntKind renaming i64 -> I
open Option renaming some -> W, none -> O
open Go.Obj renaming cells -> J
open Go.Ending renaming returned -> ρ
open Go.Proofs.Tryz renaming prog -> π
open Nat renaming le_refl -> η
open Go.RowKit.Below renaming refl -> ζ
namespace Go.Proofs.YtbikgdhbiebhcaaGreatDoor
open Go.RowKit Tryz
theorem lG:Maps.Keyed π 9:=Maps.string_keyed underlying9
theorem o3(s:ByteArray)(a:s.size<=100000):∃l,keyOf π 9 (.string s)=W l:=by
 have:s.size<=maxLen:=by unfold maxLen;omega
 simp[keyOf,underlying9,mapKey,this]
def yA:List (Value × Value):=[(.string ⟨#[]⟩,.nilIface),(.string ⟨#[110,117,108,108]⟩,.nilIface),(.string ⟨#[126]⟩,.nilIface),(.string ⟨#[116,114,117,101]⟩,.iface 4 (.bool true)),(.string ⟨#[102,97,108,115,101]⟩,.iface 4 (.bool false)),(.string ⟨#[46,105,110,102]⟩,.iface 480 (.float .f64 4602678819172646912)),(.string ⟨#[43,46,105,110,102]⟩,.iface 480 (.float .f64 4602678819172646912)),(.string ⟨#[45,46,105,110,102]⟩,.iface 480 (.float .f64 4602678819172646912)),(.string ⟨#[46,110,97,110]⟩,.iface 480 (.float .f64 4602678819172646912))]
theorem fb(w:World):Calls π 308 #[] w λe w'=>e=ρ (.map (W w.heap.size))/\xW π 9 w' w.heap.size yA/\Below w.heap.size w w':=by
 have X:=@run_makeMap π;have c:xW π 9 (w.alloc (.map #[] 0)) w.heap.size []:=aL w;obtain⟨bb,E⟩:=o3 ⟨#[]⟩ (by decide);obtain⟨R,a9,m,k⟩:=c.put lG underlying482 (.string ⟨#[]⟩) (.nilIface) E (by simp);obtain⟨be,g⟩:=o3 ⟨#[110,117,108,108]⟩ (by decide);obtain⟨bn,a0,b,z⟩:=m.put lG underlying482 (.string ⟨#[110,117,108,108]⟩) (.nilIface) g (by simp);obtain⟨a1,t⟩:=o3 ⟨#[126]⟩ (by decide);obtain⟨T,ba,u,F⟩:=b.put lG underlying482 (.string ⟨#[126]⟩) (.nilIface) t (by simp);obtain⟨a2,p⟩:=o3 ⟨#[116,114,117,101]⟩ (by decide);obtain⟨P,bk,l,D⟩:=u.put lG underlying482 (.string ⟨#[116,114,117,101]⟩) (.iface 4 (.bool true)) p (by simp);obtain⟨ad,f⟩:=o3 ⟨#[102,97,108,115,101]⟩ (by decide);obtain⟨w5,S,o,r⟩:=l.put lG underlying482 (.string ⟨#[102,97,108,115,101]⟩) (.iface 4 (.bool false)) f (by simp);obtain⟨bm,s⟩:=o3 ⟨#[46,105,110,102]⟩ (by decide);obtain⟨ac,ao,A,v⟩:=o.put lG underlying482 (.string ⟨#[46,105,110,102]⟩) (.iface 480 (.float .f64 4602678819172646912)) s (by simp);obtain⟨a3,y⟩:=o3 ⟨#[43,46,105,110,102]⟩ (by decide);obtain⟨an,ab,n,j⟩:=A.put lG underlying482 (.string ⟨#[43,46,105,110,102]⟩) (.iface 480 (.float .f64 4602678819172646912)) y (by simp);obtain⟨av,d⟩:=o3 ⟨#[45,46,105,110,102]⟩ (by decide);obtain⟨a6,a4,q,a⟩:=n.put lG underlying482 (.string ⟨#[45,46,105,110,102]⟩) (.iface 480 (.float .f64 4602678819172646912)) d (by simp);obtain⟨a5,x⟩:=o3 ⟨#[46,110,97,110]⟩ (by decide);obtain⟨N,al,C,G⟩:=q.put lG underlying482 (.string ⟨#[46,110,97,110]⟩) (.iface 480 (.float .f64 4602678819172646912)) x (by simp);have L:Below w.heap.size w N:=(((ξ (·=w.heap.size) w).alloc _).step (D':=(·=w.heap.size)) ((((((((k.trans z).trans F).trans D).trans r).trans v).trans j).trans a).trans G) (λi M e=>e)).to_below (η _) (λi M e=>by omega);clear c m b u l o A n q k z F D r v j a G E g t p f s y d x;have H:=zD C;clear C
 go_enter func308,ntmps308
 go_wp2
 go_ret
 exact⟨rfl,H.out,L⟩
theorem dt:∀(l:Tp.B) (a:Nat),(∀b∈l,Tp.isDig b=true)->Lib.decFrom a l=W (l.foldl (λa b=>a * 10+(b.toNat - 48)) a)
 | [],a,_=>rfl
 |b::t,a,h=>by
  have c:=h b (by simp);unfold Tp.isDig at c;simp at c
  have d:Lib.digitVal b=W (b.toNat - 48):=by
   unfold Lib.digitVal;simp
   omega
  rw[List.foldl_cons,Lib.decFrom,d];exact dt t _ (λx e=>h x (by simp[e]))
theorem cC(b:UInt8)(a:Tp.isDig b=true):Tp.plainC b=true:=by
 unfold Tp.isDig at a;unfold Tp.plainC;simp at a ⊢
 omega
inductive AA:Tp.B->Tp.Sc->Prop where
 |nul:AA [110,117,108,108] ⟨0,0,[]⟩
 |tru:AA [116,114,117,101] ⟨1,1,[]⟩
 |fal:AA [102,97,108,115,101] ⟨1,0,[]⟩
 |num (s t:Tp.B) (c:UInt8) (n:Int):Lib.atoi s=W n->Tp.itoa n=s->s.length<=16->-999999999999999<=n->n<=999999999999999->(s=c::t/\Tp.isDig c=true/\(∀x∈t,Tp.isDig x=true)\/s=45::c::t/\Tp.isDig c=true/\(∀x∈t,Tp.isDig x=true))->AA s ⟨2,n,[]⟩
 |let1 (c:UInt8):97<=c.toNat->c.toNat<=122->AA [c] ⟨3,0,[c]⟩
theorem rK:∀(l:Tp.B) (a k:Nat),(∀b∈l,Tp.isDig b=true)->a < 10 ^ k->l.foldl (λa b=>a * 10+(b.toNat - 48)) a < 10 ^ (k+l.length)
 | [],a,k,_,h=>by simpa using h
 |b::t,a,k,hd,h=>by
  have c:=hd b (by simp);unfold Tp.isDig at c;simp at c
  rw[List.foldl_cons,zO,show k+(t.length+1)=(k+1)+t.length by omega];refine rK t _ (k+1) (λx d=>hd x (by simp[d])) ?_;rw[Nat.pow_succ];omega
theorem m6(l:Tp.B)(a:∀c∈l,Tp.isDig c=true)(b:l.length<=15):(Tp.valueOf l:Int)<=999999999999999:=by
 have:=rK l 0 0 a (by decide);rw[Nat.zero_add]at this;have d:10 ^ l.length<=10 ^ 15:=Nat.pow_le_pow_right (by decide) b;unfold Tp.valueOf;omega
theorem j2(s:Tp.B)(x:Tp.Sc)(a:Tp.resolve s=W x):AA s x:=by
 unfold Tp.resolve at a
 match s,a with
 | [],a=>cases a
 |c::t,a=>
  simp only at a;by_cases l:(c::t)=[110,117,108,108]
  ·rw[if_pos l]at a;injection a with a;rw[l,<-a];exact .nul
  rw[if_neg l]at a;by_cases k:(c::t)=[116,114,117,101]
  ·rw[if_pos k]at a;injection a with a;rw[k,<-a];exact .tru
  rw[if_neg k]at a;by_cases n:(c::t)=[102,97,108,115,101]
  ·rw[if_pos n]at a;injection a with a;rw[n,<-a];exact .fal
  rw[if_neg n]at a;by_cases f:Tp.isDig c=true
  ·rw[if_pos f]at a
   split at a
   ·rename_i hc
    obtain⟨b,g,i⟩:=hc;rw[List.all_eq_true]at b;injection a with a;rw[<-a];have p:¬c=45:=λe=>by rw[e]at f;exact absurd f (by decide)
    have r:¬c=43:=λe=>by rw[e]at f;exact absurd f (by decide)
    refine .num (c::t) t c _ ?_ i (by omega) (by omega) (m6 _ b g) (.inl ⟨rfl,f,λx o=>b x (by simp[o])⟩);rw[Lib.atoi,if_neg (by simpa using p),if_neg (by simpa using r),Lib.decNat,if_neg (by simp),dt _ _ b];rfl
   ·cases a
  rw[if_neg f]at a;by_cases m:c.toNat=45
  ·rw[if_pos m]at a
   have j:c=45:=UInt8.toNat_inj.1 m;split at a
   ·rename_i hc
    obtain⟨b,g,i⟩:=hc;rw[List.all_eq_true]at b;injection a with a;rw[<-a];cases t with
    |nil=>rw[j]at i;exact absurd i (by decide)
    |cons d u=>
     refine .num (c::d::u) u d _ ?_ i (by simp only[zO]at g ⊢;omega) (by have:=m6 _ b g;omega) (by omega) (.inr ⟨by rw[j],b d (by simp),λx o=>b x (by simp[o])⟩);rw[j,Lib.atoi,if_pos (by decide),Lib.decNat,if_neg (by simp),dt _ _ b];rfl
   ·cases a
  rw[if_neg m]at a;split at a
  ·rename_i hc
   obtain⟨g,v,q⟩:=hc;have:t=[]:=by
    cases t with
    |nil=>rfl
    |cons d u=>simp at g
   subst this;injection a with a;rw[<-a];exact .let1 c v q
  ·cases a
theorem uY(s:Tp.B)(x:Tp.Sc)(f:AA s x):Tp.okPlain s=true:=by
 cases f with
 |nul=>decide
 |tru=>decide
 |fal=>decide
 |num _ t c n h1 h2 h3 h4 h5 f=>
  unfold Tp.okPlain;rcases f with ⟨rfl,b,g⟩|⟨rfl,b,g⟩
  ·simp only[zQ,List.all_eq_true,Bool.not_eq_true',List.isEmpty_cons,and_true]
   refine⟨?_,?_⟩
   ·intro d a
    rcases List.mem_cons.1 a with rfl|a
    ·exact cC _ b
    ·exact cC _ (g d a)
   ·rw[beq_eq_false_iff_ne]
    intro e;injection e with e1 e2;rw[e1]at b;exact absurd b (by decide)
  ·simp only[zQ,List.all_eq_true,Bool.not_eq_true',List.isEmpty_cons,and_true]
   refine⟨?_,?_⟩
   ·intro d a
    rcases List.mem_cons.1 a with rfl|a
    ·decide
    rcases List.mem_cons.1 a with rfl|a
    ·exact cC _ b
    ·exact cC _ (g d a)
   ·rw[beq_eq_false_iff_ne]
    intro e;injection e with e1 e2;cases e2
 |let1 c h1 h2=>
  unfold Tp.okPlain;simp only[zQ,List.all_eq_true,Bool.not_eq_true',List.isEmpty_cons,and_true];refine⟨?_,?_⟩
  ·intro d a
   simp at a
   subst a;unfold Tp.plainC;simp
   omega
  ·rw[beq_eq_false_iff_ne]
   intro e;injection e with e1 e2;rw[e1]at h1;exact absurd h1 (by decide)
def AW(x:Nat):Bool:=(decide ((x:Int) < 48)||decide (57 < (x:Int)))&&!decide ((x:Int)∈([46,101,69,43,45,95]:List Int))
theorem tI(a:Int)(w:World):Calls π 322 #[V .i32 a] w λe w'=>e=ρ (β ((decide (a < 48)||decide (57 < a))&&!decide (a∈([46,101,69,43,45,95]:List Int))))/\Below w.heap.size w w':=by
 have d:=nD a [46,101,69,43,45,95] (W ⟨w.heap.size,0,O⟩) w.heap.size 0 6 6 rfl (by omega) (w.alloc (J #[V .i32 46,V .i32 101,V .i32 69,V .i32 43,V .i32 45,V .i32 95] 21)) (fC w [46,101,69,43,45,95] 21);generalize decide (a∈([46,101,69,43,45,95]:List Int))=i at *;have f:=(ζ w.heap.size w).alloc (η _) (J #[V .i32 46,V .i32 101,V .i32 69,V .i32 43,V .i32 45,V .i32 95] 21);by_cases c:a < 48
 ·rw[decide_eq_true c,Bool.true_or,Bool.true_and]
  go_enter func322,ntmps322
  go_wp2_with fail
  refine d.mono ?_;rintro e g ⟨rfl,rfl⟩
  go_wp2_with fail
  go_ret
  exact⟨rfl,f⟩
 ·rw[decide_eq_false c,Bool.false_or]
  by_cases b:57 < a
  ·rw[decide_eq_true b,Bool.true_and]
   go_enter func322,ntmps322
   go_wp2_with fail
   refine d.mono ?_;rintro e g ⟨rfl,rfl⟩
   go_wp2_with fail
   go_ret
   exact⟨rfl,f⟩
  ·rw[decide_eq_false b,Bool.false_and]
   go_enter func322,ntmps322
   go_wp2_with fail
   go_ret
   exact⟨rfl,ζ _ _⟩
theorem rV(args:Array Value)(w:World):(callFunc 322 args).run π w=.ok (.enter 322 args) w:=by kernel_rfl
theorem tG(w:World):PredGrows π 322 #[] AW w:=λa x c b=>tI (x:Int) a
theorem rA(s:ByteArray)(f:∀e∈s.data.toList,Tp.isDig e=true):∀(d a:Nat),Lib.idxFuncFrom AW true s d a=-1
 |0,a=>rfl
 |d+1,a=>by
  unfold Lib.idxFuncFrom;by_cases b:a < s.size
  ·have g:a < s.data.toList.length:=by rw[ap];exact b
   have c:=f _ (List.getElem_mem g);rw[if_pos b,aX,zW g];generalize s.data.toList[a]=e at c;unfold Tp.isDig at c;simp at c
   rw[Ln.aM e _ (by omega)];rw[if_neg (by unfold AW;simp;omega)];exact rA s f d _
  ·rw[if_neg b]
theorem qY(s:ByteArray)(b:∀c∈s.data.toList,Tp.isDig c=true)(w:World):Calls π 150 #[U s,φ (.func 322) #[] #[]] w λe w'=>e=ρ (β false)/\Below w.heap.size w w':=by
 refine(strings_ContainsFunc_grows 322 #[] (λa w=>rV a w) AW s w (tG w)).mono ?_;rintro e w' ⟨rfl,d⟩;refine⟨?_,d⟩;unfold Lib.idxFunc;rw[rA s b s.size 0];rfl
theorem isEmpty_cons(s:ByteArray)(b:UInt8)(t:Tp.B)(a:s.data.toList=b::t):s.toList.isEmpty=false:=by
 rw[ByteArray.toList_eq,a];rfl
theorem xG(s:ByteArray)(c:UInt8)(t:Tp.B)(b:s.data.toList=c::t)(a:World):(Instr.index 9 (U s) (V I 0)).run π a=.ok (V .u8 (c.toNat:Int)) a:=by
 have d:0 < s.size:=by rw[<-ap,b];simp
 rw[vQ s 0 0 rfl d a];unfold Ln.nat
 rw[b];rfl
theorem kH(s T:ByteArray)(c:UInt8)(t:Tp.B)(b:T.data.toList=c::t)(l:Tp.isDig c=true)(q:∀x∈t,Tp.isDig x=true)(a:s=T\/s.data.toList=45::T.data.toList)(w:World):
 Calls π 309 #[U s] w λe w'=>e=ρ (β true)/\Below w.heap.size w w':=by
 have mk:∀i:ByteArray,(⟨i.data.toList.toArray⟩:ByteArray)=i:=λi=>rfl;have k:=l;unfold Tp.isDig at k;simp at k
 have f:∀n:UInt8,n.toNat < 48->(n==c)=false:=λn A=>by rw[beq_eq_false_iff_ne];intro e;rw[e]at A;omega
 have v:Lib.trimPrefix s.data.toList [43]=s.data.toList:=by
  unfold Lib.trimPrefix Lib.hasPrefix;rcases a with rfl|a
  ·rw[b];simp[List.isPrefixOf,f 43 (by decide)]
  ·rw[a];simp[List.isPrefixOf]
 have p:Lib.trimPrefix s.data.toList [45]=T.data.toList:=by
  unfold Lib.trimPrefix Lib.hasPrefix;rcases a with rfl|a
  ·rw[b];simp[List.isPrefixOf,f 45 (by decide)]
  ·rw[a];simp[List.isPrefixOf]
 have m:Lib.hasPrefix s.data.toList [43,45]=false:=by
  unfold Lib.hasPrefix;rcases a with rfl|a
  ·rw[b];simp[List.isPrefixOf,f 43 (by decide)]
  ·rw[a];simp[List.isPrefixOf]
 have o:Lib.trimPrefix T.data.toList [46]=T.data.toList:=by
  unfold Lib.trimPrefix Lib.hasPrefix;rw[b];simp[List.isPrefixOf,f 46 (by decide)]
 have r:=λd=>strings_TrimPrefix s ⟨#[43]⟩ d;have u:=λd=>strings_TrimPrefix s ⟨#[45]⟩ d;have c3:=λd=>strings_HasPrefix s ⟨#[43,45]⟩ d;have c4:=λd=>strings_TrimPrefix T ⟨#[46]⟩ d;rw[show (⟨#[43]⟩:ByteArray).data.toList=[43]from rfl,v,mk]at r;rw[show (⟨#[45]⟩:ByteArray).data.toList=[45]from rfl,p,mk]at u;rw[show (⟨#[43,45]⟩:ByteArray).data.toList=[43,45]from rfl,m]at c3;rw[show (⟨#[46]⟩:ByteArray).data.toList=[46]from rfl,o,mk]at c4;have y:=qY T (by rw[b];intro x j;rcases List.mem_cons.1 j with rfl|j;exact l;exact q x j);have E:=isEmpty_cons T c t b;have C:=xG T c t b;have G:(48:Int)<=(c.toNat:Int):=by omega
 have F:(c.toNat:Int)<=57:=by omega
 generalize (c.toNat:Int)=D at *;clear b l q a k f v p m o mk
 go_enter func309,ntmps309
 go_wp2_with fail
 refine(r _).mono ?_;rintro e g ⟨rfl,rfl⟩
 go_wp2_with fail
 refine(u _).mono ?_;rintro e g ⟨rfl,rfl⟩
 go_wp2_with fail
 refine(c3 _).mono ?_;rintro e g ⟨rfl,rfl⟩
 go_wp2_with fail
 refine(c4 _).mono ?_;rintro e g ⟨rfl,rfl⟩
 go_wp2_with fail
 refine(y _).mono ?_;rintro e g ⟨rfl,z⟩
 go_wp2_with fail
 go_ret
 exact⟨by simp,z⟩
theorem mE(s:ByteArray)(a:UInt8)(c:s.data.toList=[a])(u:97<=a.toNat)(p:a.toNat<=122)(w:World):
 Calls π 309 #[U s] w λe w'=>e=ρ (β false)/\w'=w:=by
 have mk:∀g:ByteArray,(⟨g.data.toList.toArray⟩:ByteArray)=g:=λg=>rfl;have k:∀n:UInt8,n.toNat < 97->(n==a)=false:=λn i=>by rw[beq_eq_false_iff_ne];intro e;rw[e]at i;omega
 have d:∀n:UInt8,n.toNat < 97->Lib.trimPrefix s.data.toList [n]=s.data.toList:=by
  intro n i;unfold Lib.trimPrefix Lib.hasPrefix;rw[c];simp[List.isPrefixOf,k n i]
 have j:Lib.hasPrefix s.data.toList [43,45]=false:=by
  unfold Lib.hasPrefix;rw[c];simp[List.isPrefixOf]
 have l:=λb=>strings_TrimPrefix s ⟨#[43]⟩ b;have m:=λb=>strings_TrimPrefix s ⟨#[45]⟩ b;have c3:=λb=>strings_HasPrefix s ⟨#[43,45]⟩ b;have c4:=λb=>strings_TrimPrefix s ⟨#[46]⟩ b;rw[show (⟨#[43]⟩:ByteArray).data.toList=[43]from rfl,d 43 (by decide),mk]at l;rw[show (⟨#[45]⟩:ByteArray).data.toList=[45]from rfl,d 45 (by decide),mk]at m;rw[show (⟨#[43,45]⟩:ByteArray).data.toList=[43,45]from rfl,j]at c3;rw[show (⟨#[46]⟩:ByteArray).data.toList=[46]from rfl,d 46 (by decide),mk]at c4;have r:=isEmpty_cons s a [] c;have o:=xG s a [] c;have v:(48:Int)<=(a.toNat:Int):=by omega
 have t:¬(a.toNat:Int)<=57:=by omega
 generalize (a.toNat:Int)=q at *;clear c k d j mk
 go_enter func309,ntmps309
 go_wp2_with fail
 refine(l _).mono ?_;rintro e f ⟨rfl,rfl⟩
 go_wp2_with fail
 refine(m _).mono ?_;rintro e f ⟨rfl,rfl⟩
 go_wp2_with fail
 refine(c3 _).mono ?_;rintro e f ⟨rfl,rfl⟩
 go_wp2_with fail
 refine(c4 _).mono ?_;rintro e f ⟨rfl,rfl⟩
 go_wp2_with fail
 go_ret
 exact⟨by simp,rfl⟩
theorem mU(w:World)(a:ByteArray)(B:Nat)(c:B<=w.heap.size):Below B w (Lib.bytesWorld w 5 a):=⟨rfl,rfl,rfl,by rw[Lib.bytesWorld_size];omega,λk b=>Lib.bytesWorld_at_old w 5 a k (zK b c)⟩
theorem pF(w:World):(zeroValue 20).run π w=.ok .nilIface w:=by kernel_rfl
theorem nV(s:ByteArray)(v:Value)(t:s.size<=100)(c:(.string s,v)∈yA)(u:v.cells.size=1)(w:World):Calls π 292 #[.string s] w λe w'=>e=ρ v/\Below w.heap.size w w':=by
 obtain⟨l,r⟩:=o3 s (by omega);have i:∀p∈yA,p.1=.string s->p.2=v:=by
  intro q g k;unfold yA at g c;simp only[List.mem_cons,List.not_mem_nil,or_false,Prod.mk.injEq,Value.string.injEq]at c g;rcases g with rfl|rfl|rfl|rfl|rfl|rfl|rfl|rfl|rfl<;>simp only[Value.string.injEq]at k<;>subst k<;>rcases c with ⟨b,a⟩|⟨b,a⟩|⟨b,a⟩|⟨b,a⟩|⟨b,a⟩|⟨b,a⟩|⟨b,a⟩|⟨b,a⟩|⟨b,a⟩<;>first|exact a.symm|exact absurd b (by decide)
 have j:∀d B,xW π 9 d B yA->(Instr.lookup 482 (.map (W B)) (.string s) true).run π d=.ok (.tuple #[v,.bool true]) d:=λd B f=>f.look_in lG underlying482 (pF _) (.string s) r true v c i;have o:=zD j;clear j i c
 go_enter func292,ntmps292
 go_wp2_with fail
 refine(fb w).mono ?_;rintro e m ⟨rfl,f,n⟩;have x:=o.out m w.heap.size f
 go_wp2_with fail
 go_ret
 exact⟨rfl,n⟩
theorem kz(s:ByteArray)(e:s.size<=100)(b:∀p∈yA,p.1≠.string s)(a:World)(B:Nat)(d:xW π 9 a B yA):(Instr.lookup 482 (.map (W B)) (.string s) true).run π a=.ok (.tuple #[.nilIface,.bool false]) a:=by
 obtain⟨l,c⟩:=o3 s (by omega);exact d.look_out lG underlying482 (pF _) (.string s) c true b
theorem nW(s:ByteArray)(b:UInt8)(a:s.data.toList=[b])(r:97<=b.toNat)(c:b.toNat<=122)(w:World):Calls π 292 #[.string s] w λe w'=>e=ρ (.iface 9 (.string s))/\Below w.heap.size w w':=by
 have g:s.size=1:=by rw[<-ap,a];rfl
 have j:∀p∈yA,p.1≠.string s:=by
  intro q d e;unfold yA at d;simp only[List.mem_cons,List.not_mem_nil,or_false]at d;rcases d with rfl|rfl|rfl|rfl|rfl|rfl|rfl|rfl|rfl<;>simp only[Value.string.injEq]at e<;>rw[<-e]at a g<;>first|(exact absurd g (by decide))|(injection a with a _;rw[<-a]at c;exact absurd c (by decide))
 have i:=kz s (by omega) j;have f:=mE s b a r c;obtain⟨o,n⟩:=zx2 i f;clear i f j a
 go_enter func292,ntmps292
 go_wp2_with fail
 refine(fb w).mono ?_;rintro e k ⟨rfl,l,m⟩;have t:=o.out k w.heap.size l
 go_wp2_with fail
 refine(n.out _).mono ?_;rintro e u ⟨rfl,rfl⟩
 go_wp2_with fail
 go_ret
 exact⟨rfl,m⟩
theorem jF(s T:ByteArray)(c:UInt8)(t:Tp.B)(n:Int)(g:T.data.toList=c::t)(L:Tp.isDig c=true)(P:∀x∈t,Tp.isDig x=true)(d:s=T\/s.data.toList=45::T.data.toList)
(G:Lib.atoi s.data.toList=W n)(A:Tp.itoa n=s.data.toList)(a4:s.size<=16)(a6:-999999999999999<=n)(a1:n<=999999999999999)(w:World)(C:Glob w):
 Calls π 292 #[.string s] w λe w'=>e=ρ (.iface 3 (.int I n))/\Below w.heap.size w w':=by
 have F:∀p∈yA,p.1≠.string s:=by
  intro q j e;unfold yA at j;have b:=L;unfold Tp.isDig at b;simp at b
  have ad:∃a m,s.data.toList=a::m/\(a=c\/(a=45/\m=c::t)):=by
   rcases d with rfl|d
   ·exact⟨c,t,g,.inl rfl⟩
   ·exact⟨45,T.data.toList,d,.inr ⟨rfl,g⟩⟩
  obtain⟨a,m,v,f⟩:=ad;simp only[List.mem_cons,List.not_mem_nil,or_false]at j;rcases j with rfl|rfl|rfl|rfl|rfl|rfl|rfl|rfl|rfl<;>simp only[Value.string.injEq]at e<;>rw[<-e]at v<;>(try cases v)<;>rcases f with f|⟨f,l⟩<;>first|(rw[<-f]at b;exact absurd b (by decide))|(exact absurd f (by decide))|(injection l with l _;rw[<-l]at b;exact absurd b (by decide))
 have z:=kz s (by omega) F;have E:=kH s T c t g L P d;have u:=strconv_Atoi s n (by omega) G;have k:=dP n (by omega) (by omega);rw[A,show xR s.data.toList=.string s from rfl]at k;have a5:(s.toList==s.toList)=true:=by simp
 have a2:¬n < -999999999999999:=by omega
 have a3:¬999999999999999 < n:=by omega
 obtain⟨ab,S,R,ac,X⟩:=zx5 z E u k C;clear z E u k F d g A G C
 go_enter func292,ntmps292
 go_wp2_with fail
 refine(fb w).mono ?_;rintro e M ⟨rfl,r,i⟩;have an:=ab.out M w.heap.size r
 go_wp2_with fail
 refine(S.out _).mono ?_;rintro e av ⟨rfl,y⟩;have H:=i.trans (y.mono i.size);clear an r i y
 go_wp2_with fail
 refine(R.out _).mono ?_;rintro e N ⟨rfl,⟨al,D⟩⟩;have o:Below w.heap.size w N:=by rw[D];exact H.trans (mU av al _ H.size)
 clear D
 go_wp2_with fail
 refine(ac.out _ (X.out.step o)).mono ?_;rintro e a0 ⟨rfl,ao⟩
 go_wp2_with fail
 go_ret
 exact⟨by simp,o.trans (ao.mono o.size)⟩
theorem n7(a:World):(Instr.typeAssert (.nilIface) 20 480 true).run π a=.ok (.tuple #[.float .f64 0,β false]) a:=by kernel_rfl
theorem sW(a:World):(Instr.typeAssert (.nilIface) 20 4 true).run π a=.ok (.tuple #[β false,β false]) a:=by kernel_rfl
theorem sX(a:World):(Instr.typeAssert (.nilIface) 20 3 true).run π a=.ok (.tuple #[V I 0,β false]) a:=by kernel_rfl
theorem sV(a:World):(Instr.typeAssert (.nilIface) 20 9 true).run π a=.ok (.tuple #[U ⟨#[]⟩,β false]) a:=by kernel_rfl
theorem nj(b:Bool)(a:World):(Instr.typeAssert (.iface 4 (β b)) 20 480 true).run π a=.ok (.tuple #[.float .f64 0,β false]) a:=by kernel_rfl
theorem uw(a:Bool)(b:World):(Instr.typeAssert (.iface 4 (β a)) 20 4 true).run π b=.ok (.tuple #[β a,β true]) b:=by kernel_rfl
theorem sY(n:Int)(a:World):(Instr.typeAssert (.iface 3 (V I n)) 20 480 true).run π a=.ok (.tuple #[.float .f64 0,β false]) a:=by kernel_rfl
theorem vY(n:Int)(a:World):(Instr.typeAssert (.iface 3 (V I n)) 20 4 true).run π a=.ok (.tuple #[β false,β false]) a:=by kernel_rfl
theorem vZ(n:Int)(a:World):(Instr.typeAssert (.iface 3 (V I n)) 20 3 true).run π a=.ok (.tuple #[V I n,β true]) a:=by kernel_rfl
theorem sU(s:ByteArray)(a:World):(Instr.typeAssert (.iface 9 (U s)) 20 480 true).run π a=.ok (.tuple #[.float .f64 0,β false]) a:=by kernel_rfl
theorem vW(s:ByteArray)(a:World):(Instr.typeAssert (.iface 9 (U s)) 20 4 true).run π a=.ok (.tuple #[β false,β false]) a:=by kernel_rfl
theorem vX(s:ByteArray)(a:World):(Instr.typeAssert (.iface 9 (U s)) 20 3 true).run π a=.ok (.tuple #[V I 0,β false]) a:=by kernel_rfl
theorem vV(s:ByteArray)(a:World):(Instr.typeAssert (.iface 9 (U s)) 20 9 true).run π a=.ok (.tuple #[U s,β true]) a:=by kernel_rfl
def yK(w:World)(x:Tp.Sc)(e:Ending)(w':World):Prop:=e=ρ (.tuple #[scV x,V I 0])/\Below w.heap.size w w'
theorem wu:(prog.info? 30).map (·.size)=W 3:=by kernel_rfl
theorem cw{e:Func}{a f:Tmp}(i:e.results=#[.cell a 30,.tmp f])(c:World)(q:Nat)(x d z:Value)(b:Array Value)(k:c.heap[q]? =W (J #[x,d,z] 30 (0,0)))(l:b.getD a undef=Z (W ⟨q,0,O⟩)):
 (results e b).run π c=.ok (.tuple #[γ #[x,d,z],b.getD f undef]) c:=by
 have g:b[a]?.getD undef=Z (W ⟨q,0,O⟩):=by simpa using l
 have j:=run_loadVar_row (P:=π) c q 30 30 _ (0,0) _ k underlying30 rfl wu;simp[results,i,asAddr,g,j,Sem.run_bind,Result.andThen]
theorem oq(w:World):Calls π 291 #[.nilIface] w (yK w ⟨0,0,[]⟩):=by
 have c:=n7;have a:=sW;have d:=sX;have b:=sV
 go_enter func291,ntmps291
 go_wp2_with fail
 exact bodyPost_ret (cw results291 _ w.heap.size _ _ _ _ (af w _) rfl) rfl ⟨rfl,(ζ _ _).alloc (η _) _⟩
theorem gU(n:Int)(w:World):Calls π 291 #[.iface 3 (V I n)] w (yK w ⟨2,n,[]⟩):=by
 have b:=sY n;have a:=vY n;have c:=vZ n
 go_enter func291,ntmps291
 go_wp2_with fail
 exact bodyPost_ret (cw results291 _ w.heap.size _ _ _ _ (af w _) rfl) rfl ⟨rfl,(ζ _ _).alloc (η _) _⟩
theorem oo(s:ByteArray)(w:World):Calls π 291 #[.iface 9 (U s)] w (yK w ⟨3,0,s.data.toList⟩):=by
 have c:=sU s;have a:=vW s;have d:=vX s;have b:=vV s
 go_enter func291,ntmps291
 go_wp2_with fail
 exact bodyPost_ret (cw results291 _ w.heap.size _ _ _ _ (af w _) rfl) rfl ⟨rfl,(ζ _ _).alloc (η _) _⟩
theorem lW(w:World):Calls π 291 #[.iface 4 (β true)] w (yK w ⟨1,1,[]⟩):=by
 have a:=nj true;have b:=uw true
 go_enter func291,ntmps291
 go_wp2_with fail
 exact bodyPost_ret (cw results291 _ w.heap.size _ _ _ _ (aa _ (af w _)) rfl) rfl ⟨rfl,((ζ _ _).alloc (η _) _).alloc (by simp) _⟩
theorem jP(w:World):Calls π 291 #[.iface 4 (β false)] w (yK w ⟨1,0,[]⟩):=by
 have a:=nj false;have b:=uw false
 go_enter func291,ntmps291
 go_wp2_with fail
 exact bodyPost_ret (cw results291 _ w.heap.size _ _ _ _ (aa _ (af w _)) rfl) rfl ⟨rfl,((ζ _ _).alloc (η _) _).alloc (by simp) _⟩
theorem bG(s:ByteArray)(x:Tp.Sc)(v:Value)(P:s.size<=100000)(g:Tp.okPlain s.data.toList=true)(C:∀w,Glob w->Calls π 292 #[U s] w λe w'=>e=ρ v/\Below w.heap.size w w')(D:∀w,Calls π 291 #[v] w (yK w x))(w:World)(f:Glob w):
 Calls π 268 #[U s] w (yK w x):=by
 have l:w.heap.size < (w.alloc (J #[V I 0,V I 0,U ⟨#[]⟩] 30)).heap.size:=by simp
 have b:=(ζ w.heap.size w).alloc (η _) (J #[V I 0,V I 0,U ⟨#[]⟩] 30);have A:=re s false P g _ (f.step b);obtain⟨S,t,o⟩:=List.exists_cons_of_ne_nil (ci _ g).2.1;have ad:=isEmpty_cons s S t o;have m:=af w (J #[V I 0,V I 0,U ⟨#[]⟩] 30);obtain⟨G,R,N,M,H,n⟩:=zx6 A C D f m b;clear A C D f m b g o
 go_enter func268,ntmps268
 go_wp2_with fail
 refine G.out.mono ?_;rintro e X ⟨rfl,i⟩;have r:=n.out.trans (i.mono n.out.size);have k:=(i.block _ l).trans H.out;obtain⟨c,u⟩:=zx2 r k;clear i r k l
 go_wp2_with fail
 refine(R.out _ (M.out.step c.out)).mono ?_;rintro e av ⟨rfl,d⟩;have E:=c.out.trans (d.mono c.out.size);have z:=(d.block _ (lt_of_heap u.out)).trans u.out;obtain⟨y,q⟩:=zx2 E z;clear d E z
 go_wp2_with fail
 refine(N.out _).mono ?_;rintro e ab ⟨rfl,j⟩;have p:=y.out.trans (j.mono y.out.size);have a:=(j.block _ (lt_of_heap q.out)).trans q.out;have an:=zF a 0 rfl;have al:=zF a 1 rfl;have T:=zF a 2 rfl;have ao:=ag a 0;have ac:=ag a 1;have a0:=ag a 2;obtain⟨L,F⟩:=zx2 p a;clear j p a;unfold scV
 go_wp2_with fail
 exact bodyPost_ret (cw results268 _ w.heap.size _ _ _ _ (ai (ai (ai F.out 0 _) 1 _) 2 _) rfl) rfl ⟨rfl,((L.out.setCell (η _) _).setCell (η _) _).setCell (η _) _⟩
theorem mh(s:ByteArray)(x:Tp.Sc)(f:s.size<=100000)(o:AA s.data.toList x)(w:World)(b:Glob w):Calls π 268 #[.string s] w (yK w x):=by
 have g:=uY _ _ o;obtain⟨l,a⟩:∃l,s.data.toList=l:=⟨_,rfl⟩;have d:s=⟨l.toArray⟩:=by rw[<-a]
 have m:∀v,(.string s,v)∈yA->s.size<=100->v.cells.size=1->∀w,Glob w->Calls π 292 #[.string s] w λe w'=>e=ρ v/\Below w.heap.size w w':=λv p j i w _=>nV s v j p i w;rw[a]at o;cases o with
 |nul=>exact bG s _ .nilIface f g (m _ (by rw[d];simp[yA]) (by rw[d];decide) (by decide)) oq w b
 |tru=>exact bG s _ (.iface 4 (.bool true)) f g (m _ (by rw[d];simp[yA]) (by rw[d];decide) (by rfl)) lW w b
 |fal=>exact bG s _ (.iface 4 (.bool false)) f g (m _ (by rw[d];simp[yA]) (by rw[d];decide) (by rfl)) jP w b
 |num _ t c n h1 h2 h3 h4 h5 h6=>
  have j:s.size<=16:=by rw[<-ap,a];exact h3
  rcases h6 with ⟨rfl,i,k⟩|⟨rfl,i,k⟩
  ·exact bG s _ (.iface 3 (.int I n)) f g (λw b=>jF s s c t n a i k (.inl rfl) (by rw[a];exact h1) (by rw[a];exact h2) j h4 h5 w b) (gU n) w b
  ·exact bG s _ (.iface 3 (.int I n)) f g (λw b=>jF s ⟨(c::t).toArray⟩ c t n rfl i k (.inr a) (by rw[a];exact h1) (by rw[a];exact h2) j h4 h5 w b) (gU n) w b
 |let1 c h1 h2=>
  have:=oo s;rw[a]at this;exact bG s _ (.iface 9 (.string s)) f g (λw b=>nW s c a h1 h2 w) this w b
def TkS(w:World)(v:Value)(a:List Tp.Tk):Prop:=∃b g o cap,v=Y b a.length cap/\a.length<=cap/\RA w b g o (xZ a)
theorem TkS.keep{w w':World}{v:Value}{a:List Tp.Tk}(c:TkS w v a)(f:Below w.heap.size w w'):TkS w' v a:=by
 obtain⟨b,g,o,cap,e,d,i⟩:=c;exact⟨b,g,o,cap,e,d,i.keep f⟩
theorem bE:∀(a:List Tp.Tk) (i:Nat) (t:Tp.Tk),a[i]? =W t->(xZ a)[i * 3]? =W (V I t.k)/\(xZ a)[i * 3+1]? =W (xR t.s)/\(xZ a)[i * 3+2]? =W (V I (t.a:Int))
 | [],i,t,h=>by simp at h
 |x::r,0,t,h=>by simp at h;subst h;exact⟨rfl,rfl,rfl⟩
 |x::r,i+1,t,h=>by
  have:=bE r i t (by simpa using h);rw[show xZ (x::r)=[V I x.k,xR x.s,V I (x.a:Int)]++xZ r from rfl];rw[show (i+1) * 3=3+i * 3 by omega,show 3+i * 3+1=3+(i * 3+1)by omega,show 3+i * 3+2=3+(i * 3+2)by omega];simp only[zV (show [Value.int I x.k,xR x.s,V I (x.a:Int)].length<=3+_ from Nat.le_add_right 3 _),zO,List.length_nil,Nat.zero_add,Nat.reduceAdd,Nat.add_sub_cancel_left];exact this
def zf(t:Tp.Tk):Prop:=t.s.length<=1000/\(t.k=2->Ln.right t.s=true)
theorem rk(t:Tp.Tk)(R:zf t)(x:Tp.Sc)(d:Tp.fkey t=W x)(w:World)(H:Glob w):Calls π 237 #[tkV t] w (yK w x):=by
 obtain⟨k,s,a⟩:=t;obtain⟨E,v⟩:=R;simp only at E v;unfold Tp.fkey at d;simp only at d;unfold tkV;simp only;obtain⟨c,q⟩:∃c:ByteArray,(⟨s.toArray⟩:ByteArray)=c:=⟨_,rfl⟩;have y:xR s=U c:=by rw[<-q];rfl
 have l:c.data.toList=s:=by rw[<-q]
 have ad:c.size<=1000:=by rw[<-ap,l];exact E
 rw[y];generalize (a:Int)=A;have D:Below w.heap.size w ((w.alloc (J #[V I k,U c,V I A] 305)).alloc (J #[V I 0,V I 0,U ⟨#[]⟩] 30)):=((ζ _ w).alloc (η _) _).alloc (by simp) _;have G:((w.alloc (J #[V I k,U c,V I A] 305)).alloc (J #[V I 0,V I 0,U ⟨#[]⟩] 30)).heap[w.heap.size]? =W (J #[V I k,U c,V I A] 305 (0,0)):=aa _ (af w _);have z:((w.alloc (J #[V I k,U c,V I A] 305)).alloc (J #[V I 0,V I 0,U ⟨#[]⟩] 30)).heap[w.heap.size+1]? =W (J #[V I 0,V I 0,U ⟨#[]⟩] 30 (0,0)):=ah _ _ _ (by simp);obtain⟨g,L,m,C⟩:=zx4 D G z H;clear D G z H q y;by_cases u:k=1
 ·subst u
  rw[if_pos rfl]at d;have i:=mh c x (by omega) (by rw[l];exact j2 _ _ d) _ (C.out.step g.out);have p:=zD i;clear i
  go_enter func237,ntmps237
  go_wp2_with fail
  refine p.out.mono ?_;rintro e P ⟨rfl,f⟩;have b:=(f.block _ (lt_of_heap m.out)).trans m.out;have j:=g.out.trans (f.mono g.out.size);have X:=zF b 0 rfl;have T:=zF b 1 rfl;have M:=zF b 2 rfl;have ab:=ag b 0;have S:=ag b 1;have ac:=ag b 2;obtain⟨n,o⟩:=zx2 b j;clear b j f;unfold scV
  go_wp2_with fail
  exact bodyPost_ret (cw results237 _ (w.heap.size+1) _ _ _ _ (ai (ai (ai n.out 0 _) 1 _) 2 _) rfl) rfl ⟨rfl,((o.out.setCell (Nat.le_succ _) _).setCell (Nat.le_succ _) _).setCell (Nat.le_succ _) _⟩
 rw[if_neg u]at d;by_cases r:k=2
 ·subst r
  rw[if_pos rfl]at d;injection d with d;rw[<-d];have i:=bt c (by omega) _ (C.out.step g.out);rw[l,v rfl]at i;have p:=zD i;clear i
  go_enter func237,ntmps237
  go_wp2_with fail
  refine p.out.mono ?_;rintro e P ⟨rfl,f⟩;have b:=(f.block _ (lt_of_heap m.out)).trans m.out;have F:=(f.block _ (lt_of_heap L.out)).trans L.out;have j:=g.out.trans (f.mono g.out.size);have al:=zF F 1 rfl;have X:=zF b 0 rfl;have T:=zF b 1 rfl;have M:=zF b 2 rfl;have ab:=ag b 0;have S:=ag b 1;have ac:=ag b 2;obtain⟨n,o⟩:=zx2 b j;clear b j f F
  go_wp2_with fail
  have N:scV ⟨3,0,s⟩=γ #[V I 3,V I 0,U c]:=by unfold scV;rw[show xR s=U c by rw[<-l];rfl]
  exact bodyPost_ret (cw results237 _ (w.heap.size+1) _ _ _ _ (ai (ai (ai n.out 0 _) 1 _) 2 _) rfl) rfl ⟨by rw[N];rfl,((o.out.setCell (Nat.le_succ _) _).setCell (Nat.le_succ _) _).setCell (Nat.le_succ _) _⟩
 ·rw[if_neg r]at d;cases d
def TkG(w:World)(g:Nat)(v:Value)(a:List Tp.Tk):Prop:=∃b o cap,v=Y b a.length cap/\a.length<=cap/\RA w b g o (xZ a)
theorem RA.far{D:Nat->Prop}{w w':World}{a:Option Addr}{g o:Nat}{c:List Value}(e:RA w a g o c)(d:Far D w w')(l:¬D g):RA w' a g o c:=by
 intro f;obtain⟨j,b,k⟩:=e f;exact⟨j,zK b d.size,λi x m=>(World.cell?_of_block (w:=w) (d.block g b l)).trans (k i x m)⟩
theorem TkG.far{D:Nat->Prop}{w w':World}{g:Nat}{v:Value}{a:List Tp.Tk}(c:TkG w g v a)(f:Far D w w')(j:¬D g):TkG w' g v a:=by
 obtain⟨b,o,cap,e,d,i⟩:=c;exact⟨b,o,cap,e,d,i.far f j⟩
structure yg(w:World)(r g:Nat)(v:Value)(ts:List Tp.Tk)(i:Nat):Prop where
 blk:∃T,w.heap[r]? =W (J #[v,V I (i:Int)] T (0,0))
 tk:TkG w g v ts
 ne:g≠r
 all:∀t∈ts,zf t
 small:ts.length<=100000
 le:i<=ts.length
theorem yg.far{D:Nat->Prop}{w w':World}{a g:Nat}{v:Value}{c:List Tp.Tk}{i:Nat}(o:yg w a g v c i)(b:Far D w w')(l:¬D a)(e:¬D g):yg w' a g v c i:=by
 obtain⟨⟨T,j⟩,d,m,f,k,n⟩:=o;exact⟨⟨T,b.heap j l⟩,d.far b e,m,f,k,n⟩
def xY(b:List Tp.Tk)(i:Nat)(c:List Int):Bool:=match b[i]? with|some t=>c.any λa=>t.k==a|none=>false
theorem wG(x a:Int)(b:World):(binOp .lss 3 (V I x) (V I a)).run π b=.ok (β (decide (x < a))) b:=by
 simp[go_sem]
theorem jh(d g:Nat)(v:Value)(a:List Tp.Tk)(i:Nat)(c:List Int)(a1:c.length<=100)(F:Nat)(w:World)(X:yg w d g v a i)(G:∀j,j < c.length->w.cell? ⟨F,j,O⟩=W (V I c[j]!)):
 Calls π 312 #[Z (W ⟨d,0,O⟩),Y (W ⟨F,0,O⟩) c.length c.length] w λe w'=>e=ρ (β (xY a i c))/\∃n,w'=w.drewN n:=by
 obtain⟨⟨T,u⟩,⟨ac,o,cap,rfl,a4,s⟩,av,ad,a3,a5⟩:=X;have l:=zF u 0 rfl;have m:=zF u 1 rfl;have N:=λr=>uJ (i:Int) 0 r;rw[decide_eq_true (Int.natCast_nonneg i)]at N;have M:=λr=>wG (i:Int) (a.length:Int) r;unfold xY;by_cases ab:i < a.length
 ·rw[decide_eq_true (by omega:(i:Int) < (a.length:Int))]at M
  obtain⟨t,q⟩:∃t,a[i]? =W t:=⟨a[i],zE ab⟩;rw[q];obtain⟨k,an,R⟩:=bE a i t q;obtain⟨rfl,a0,H⟩:=s (by intro e;rw[e]at k;simp at k);have y:w.cell? ⟨g,o+i * 3,O⟩=W (V I t.k):=H _ _ k;have A:=bX (Value.int I) (λx z=>x==z) (EqlAt.int π 3 I) F 0 c.length c.length c t.k w.drew (η _) (by omega) (λj al=>by rw[Nat.zero_add];exact G j al);simp only[List.take_length]at A;simp only;generalize (c.any λz=>t.k==z)=ao at *;have S:=zD A;clear A G H k an R s q;generalize t.k=K at *;generalize (a.length:Int)=LI at *;generalize a.length=C at *
  go_enter func312,ntmps312
  go_upto_region 1 with (fail)
  refine wp_region_noPanic ?_;refine ar (λw'=>w'.cell? ⟨d,0,O⟩=W (Y (W ⟨g,o,O⟩) C cap)/\w'.cell? ⟨d,1,O⟩=W (V I (i:Int))/\w'.cell? ⟨g,o+i * 3,O⟩=W (V I K)) [] (by kernel_rfl) ?_;refine ay 20 (by kernel_rfl) (λ_ _ _ _ f=>f) (by exact⟨l,m,y⟩) 3 [0,1,2,3,4,5,6,7,8,9,10,11,12,13,14,15,16,17,18,19,20,21,22,23,24,25,26,27,28,29] _ _ (by kernel_rfl) ?_;iterate 30 (refine ax (v:=?_) ?_ ?_;rotate_left;·(intro E b;(try dsimp only at b);(try obtain⟨D,p,P⟩:=b);go_simp;try with_reducible rfl);(try go_frame))
  refine xT.done ?_;try dsimp only
  refine aq [30] ?_;refine aj rfl (λK L=>?_) xQ.nil
  go_simp
  refine S.out.mono ?_;rintro e a2 ⟨rfl,rfl⟩;refine L.out _ _ (λ_=>(by exact⟨l,m,y⟩)) ?_;clear L K
  (try go_frame)
  refine ay 20 (by kernel_rfl) (λ_ _ _ _ f=>f) (by exact⟨l,m,y⟩) 0 [31,32] _ _ (by kernel_rfl) ?_;iterate 2 (refine ax (v:=?_) ?_ ?_;rotate_left;·(intro E b;(try dsimp only at b);(try obtain⟨D,p,P⟩:=b);go_simp;try with_reducible rfl);(try go_frame))
  refine xT.done ?_;try dsimp only
  refine aP (by kernel_rfl) (NoPanic.normal ?_) _
  go_wp2_with fail
  go_ret
  exact⟨by simp[Act.put],1,rfl⟩
 ·rw[decide_eq_false (by omega:¬(i:Int) < (a.length:Int))]at M
  rw[List.getElem?_eq_none (by omega)];simp only;generalize a.length=C at *;clear s u G ad
  go_enter func312,ntmps312
  go_upto_region 1 with (fail)
  refine wp_region_noPanic ?_;refine ar (λw'=>w'.cell? ⟨d,0,O⟩=W (Y ac C cap)/\w'.cell? ⟨d,1,O⟩=W (V I (i:Int))) [] (by kernel_rfl) ?_;refine ay 20 (by kernel_rfl) (λ_ _ _ _ f=>f) (by exact⟨l,m⟩) 0 [0,1,2,3,4,5,6,7,8,9,10,11,12,13,14,15,16,17,18,19,20,21,22,23,24,25,26,27,28,29,30,31,32] _ _ (by kernel_rfl) ?_;iterate 18 (refine ax (v:=?_) ?_ ?_;rotate_left;·(intro E b;(try dsimp only at b);(try obtain⟨D,p⟩:=b);go_simp;try with_reducible rfl);(try go_frame))
  iterate 13 (refine aB rfl (by simp only[zH,zI,zJ];rfl) (by kernel_rfl) ?_;(try go_frame))
  iterate 2 (refine ax (v:=?_) ?_ ?_;rotate_left;·(intro E b;(try dsimp only at b);(try obtain⟨D,p⟩:=b);go_simp;try with_reducible rfl);(try go_frame))
  refine xT.done ?_;try dsimp only
  refine aP (by kernel_rfl) (NoPanic.normal ?_) _
  go_wp2_with fail
  go_ret
  exact⟨by simp[Act.put],1,rfl⟩
theorem rl{a:List Tp.Tk}{i:Nat}{c:List Int}(b:xY a i c=true):i < a.length:=by
 unfold xY at b;by_cases d:i < a.length
 ·exact d
 ·rw[List.getElem?_eq_none (by omega)]at b;cases b
theorem yg.drewN{w:World}{a g:Nat}{v:Value}{b:List Tp.Tk}{i:Nat}(c:yg w a g v b i)(n:Nat):yg (w.drewN n) a g v b i:=c.far ((ξ xO w).drewN n) (λe=>e) λe=>e
theorem yg.alloc{w:World}{a g:Nat}{v:Value}{b:List Tp.Tk}{i:Nat}(c:yg w a g v b i)(o:Obj):yg (w.alloc o) a g v b i:=c.far ((ξ xO w).alloc o) (λe=>e) λe=>e
theorem yg.moved{w:World}{a g:Nat}{v:Value}{b:List Tp.Tk}{i:Nat}(d:yg w a g v b i)(j:Nat)(e:j<=b.length):yg (w.setCell ⟨a,1,O⟩ (V I (j:Int))) a g v b j:=by
 obtain⟨⟨T,l⟩,f,c,k,m,n⟩:=d;exact⟨⟨T,ai l 1 _⟩,f.far ((ξ (·=a) w).setCell (λ_=>rfl) _) c,c,k,m,e⟩
theorem fg(b g:Nat)(v:Value)(a:List Tp.Tk)(i:Nat)(k:Int)(w:World)(d:yg w b g v a i):
 Calls π 327 #[Z (W ⟨b,0,O⟩),V I k] w λe w'=>e=ρ (β (xY a i [k]))/\yg w' b g v a (if xY a i [k]then i+1 else i)/\Far (·=b) w w':=by
 have l:=jh b g v a i [k] (by simp) w.heap.size (w.alloc (J #[V I k] 3)) (d.alloc _) (λj s=>by
  simp only[zO,List.length_nil,Nat.zero_add,Nat.lt_one_iff]at s;subst s;exact aY rfl rfl)
 have o:=λ(z:xY a i [k]=true)=>rl z;have q:Far (·=b) w (w.alloc (J #[V I k] 3)):=(ξ _ w).alloc _;have r:=d.alloc (J #[V I k] 3);have G:=d.small;generalize xY a i [k]=x at *;simp only[zO,List.length_nil,Nat.zero_add]at l;obtain⟨y,p,c⟩:=zx3 l r q;clear l d r q
 go_enter func327,ntmps327
 go_wp2_with fail
 refine y.out.mono ?_;rintro e A ⟨rfl,n,rfl⟩;have f:=p.out.drewN n;have t:=c.out.drewN n;clear p c;generalize (w.alloc (J #[V I k] 3)).drewN n=D at *;obtain⟨T,m⟩:=f.blk;have E:=zF m 1 rfl;have C:=ag m 1;obtain⟨u,c⟩:=zx2 f t;clear m f t;cases x with
 |false=>
  go_wp2_with fail
  go_ret
  exact⟨rfl,u.out,c.out⟩
 |true=>
  have F:=o rfl;clear o
  go_wp2_with fail
  rw[show ((i:Int)+1)=((i+1:Nat):Int)by omega]
  go_ret
  exact⟨rfl,u.out.moved (i+1) (by omega),c.out.setCell (λ_=>rfl) _⟩
def Row(w:World)(c:NS)(n:Nat)(v:Value)(b:List Value):Prop:=∃a g o cap,v=Y a n cap/\(n<=cap/\cap<=maxLen)/\(b≠[]->c g)/\RA w a g o b
theorem Row.far{D b:NS}{w w':World}{n:Nat}{v:Value}{d:List Value}(p:Row w b n v d)(l:Far D w w')(i:∀k,b k->k < w.heap.size->¬D k):Row w' b n v d:=by
 obtain⟨m,g,o,cap,j,f,e,c⟩:=p;exact⟨m,g,o,cap,j,f,e,λa=>(RA.far c l (i _ (e a) (c a).2.1)) a⟩
theorem Row.mono{a G':NS}{w:World}{n:Nat}{v:Value}{d:List Value}(f:Row w a n v d)(m:∀k,a k->k < w.heap.size->G' k):Row w G' n v d:=by
 obtain⟨e,g,o,cap,j,i,l,c⟩:=f;exact⟨e,g,o,cap,j,i,λb=>m _ (l b) (c b).2.1,c⟩
theorem cy(w:World)(b:NS):Row w b 0 (Y O 0 0) []:=⟨O,0,0,0,rfl,⟨η _,z_ _⟩,λa=>absurd rfl a,wA _ _ _ _⟩
theorem az{w:World}{c:Nat}{T:TypeId}{l n:Nat}{v:Value}{a:List Value}(u:w.ownsRow c T l v n a):Row w (λk=>c<=k) n v a:=by
 obtain⟨b,r⟩:=u;rcases r with ⟨rfl,rfl⟩|⟨g,cap,p,rfl,j,d,m,f,o⟩
 ·simp at b
  subst b;exact cy _ _
 ·refine⟨W ⟨g,0,O⟩,g,0,cap,rfl,⟨m,f⟩,λ_=>j,λ_=>⟨rfl,lt_of_heap d,λi t s=>?_⟩⟩
  have:=World.ownsRow.cells (w:=w) (base:=c) (e:=T) (size:=l) (n:=n) (xs:=a) ⟨b,.inr ⟨g,cap,p,rfl,j,d,m,f,o⟩⟩ (g:=g) rfl i t s;have q:(⟨g,0,O⟩:Addr).add i=⟨g,i,O⟩:=by unfold Addr.add;split<;>simp_all
  rw[q]at this;rw[Nat.zero_add];exact this
def xV(l:List Tp.Sc):List Value:=l.flatMap λx=>[V I x.k,V I x.n,xR x.s]
mutual
def xS (w:World) (a:NS):Tp.Tree->List Value->Prop
 |⟨k,name,x,keys,kids⟩,v=>∃kv d b,v=[V I k,xR name,V I x.k,V I x.n,xR x.s,kv,d]/\Row w a keys.length kv (xV keys)/\xU w a kids b/\Row w a kids.length d b
def xU (w:World) (a:NS):List Tp.Tree->List Value->Prop
 | [],b=>b=[]
 |t::r,b=>∃v c,xS w a t v/\b=v++c/\xU w a r c
end
theorem xS.len{w:World}{b:NS}{t:Tp.Tree}{v:List Value}(a:xS w b t v):v.length=7:=by
 obtain⟨k,d,x,g,c⟩:=t;unfold xS at a;obtain⟨kv,f,e,rfl,_⟩:=a;rfl
mutual
theorem xS.far {D a:NS} {w w':World} (c:Far D w w') (d:∀k,a k->k < w.heap.size->¬D k):∀(t:Tp.Tree) (v:List Value),xS w a t v->xS w' a t v
 |⟨k,name,x,keys,kids⟩,v,h=>by
  unfold xS at h ⊢;obtain⟨kv,m,b,f,e,g,l⟩:=h;exact⟨kv,m,b,f,e.far c d,xU.far c d kids b g,l.far c d⟩
theorem xU.far {D a:NS} {w w':World} (c:Far D w w') (d:∀k,a k->k < w.heap.size->¬D k):∀(i:List Tp.Tree) (b:List Value),xU w a i b->xU w' a i b
 | [],b,h=>by unfold xU at h ⊢;exact h
 |t::r,b,h=>by
  unfold xU at h ⊢;obtain⟨v,j,f,e,g⟩:=h;exact⟨v,j,xS.far c d t v f,e,xU.far c d r j g⟩
end
mutual
theorem xS.mono {c G':NS} {w:World} (b:∀k,c k->k < w.heap.size->G' k):∀(t:Tp.Tree) (v:List Value),xS w c t v->xS w G' t v
 |⟨k,name,x,keys,kids⟩,v,h=>by
  unfold xS at h ⊢;obtain⟨kv,l,a,e,d,f,j⟩:=h;exact⟨kv,l,a,e,d.mono b,xU.mono b kids a f,j.mono b⟩
theorem xU.mono {c G':NS} {w:World} (b:∀k,c k->k < w.heap.size->G' k):∀(g:List Tp.Tree) (a:List Value),xU w c g a->xU w G' g a
 | [],a,h=>by unfold xU at h ⊢;exact h
 |t::r,a,h=>by
  unfold xU at h ⊢;obtain⟨v,i,e,d,f⟩:=h;exact⟨v,i,xS.mono b t v e,d,xU.mono b r i f⟩
end
theorem xU.snoc{w:World}{b:NS}{t:Tp.Tree}{v:List Value}(c:xS w b t v):∀(d:List Tp.Tree) (a:List Value),xU w b d a->xU w b (d++[t]) (a++v)
 | [],a,hk=>by
  unfold xU at hk;subst hk;rw[List.nil_append,List.nil_append];unfold xU;exact⟨v,[],c,(List.append_nil v).symm,by unfold xU;rfl⟩
 |s::r,a,hk=>by
  unfold xU at hk;obtain⟨f,e,g,rfl,i⟩:=hk;rw[List.cons_append];unfold xU;exact⟨f,e++v,g,List.append_assoc _ _ _,xU.snoc c r e i⟩
theorem xU.len{w:World}{c:NS}:∀(b:List Tp.Tree) (a:List Value),xU w c b a->a.length=b.length * 7
 | [],a,hk=>by unfold xU at hk;subst hk;rfl
 |s::r,a,hk=>by
  unfold xU at hk;obtain⟨g,d,e,rfl,f⟩:=hk;rw[zP,e.len,xU.len r d f,zO];omega
theorem xU.at{w:World}{e:NS}:∀(f:List Tp.Tree) (a:List Value) (i:Nat) (t:Tp.Tree),xU w e f a->f[i]? =W t->∃v,xS w e t v/\∀j,j < 7->a[i * 7+j]? =v[j]?
 | [],a,i,t,hk,h=>by simp at h
 |s::r,a,0,t,hk,h=>by
  unfold xU at hk;obtain⟨d,g,b,rfl,k⟩:=hk;simp at h
  subst h;exact⟨d,b,λj c=>by rw[Nat.zero_mul,Nat.zero_add,List.getElem?_append_left (by rw[b.len];exact c)]⟩
 |s::r,a,i+1,t,hk,h=>by
  unfold xU at hk;obtain⟨d,g,b,rfl,k⟩:=hk;obtain⟨v,l,m⟩:=xU.at r g i t k (by simpa using h);refine⟨v,l,λj c=>?_⟩;rw[zV (by rw[b.len];omega),b.len,show (i+1) * 7+j - 7=i * 7+j by omega];exact m j c
theorem Far.at{D:Nat->Prop}{a b:World}(d:Far D a b){p:Addr}{v:Value}(c:a.cell? p=W v)(e:¬D p.block):b.cell? p=W v:=(d.cell (World.block_lt_of_cell? a p c) e).trans c
def New(w:World):NS:=λk=>w.heap.size<=k
theorem yg.tok{w:World}{a g:Nat}{v:Value}{b:List Tp.Tk}{i:Nat}{t:Tp.Tk}(m:yg w a g v b i)(j:b[i]? =W t):∃o cap,v=Y (W ⟨g,o,O⟩) b.length cap/\w.cell? ⟨g,o+i * 3,O⟩=W (V I t.k)/\w.cell? ⟨g,o+i * 3+1,O⟩=W (xR t.s)/\w.cell? ⟨g,o+i * 3+2,O⟩=W (V I (t.a:Int))/\
 w.cell? ⟨a,0,O⟩=W v/\w.cell? ⟨a,1,O⟩=W (V I (i:Int))/\w.frozen? ⟨a,1,O⟩=false:=by
 obtain⟨⟨T,f⟩,⟨r,o,cap,rfl,q,k⟩,_,_,_,_⟩:=m;obtain⟨d,n,l⟩:=bE b i t j;obtain⟨rfl,p,c⟩:=k (by intro e;rw[e]at d;simp at d);exact⟨o,cap,rfl,c _ _ d,c _ _ n,c _ _ l,ae f 0,ae f 1,ag f 1⟩
theorem yg.tok'{w:World}{a g:Nat}{v:Value}{b:List Tp.Tk}{i j:Nat}{t:Tp.Tk}(n:yg w a g v b j)(k:b[i]? =W t):∃o cap,v=Y (W ⟨g,o,O⟩) b.length cap/\w.cell? ⟨g,o+i * 3,O⟩=W (V I t.k)/\w.cell? ⟨g,o+i * 3+1,O⟩=W (xR t.s)/\w.cell? ⟨g,o+i * 3+2,O⟩=W (V I (t.a:Int))/\
 w.cell? ⟨a,0,O⟩=W v/\w.cell? ⟨a,1,O⟩=W (V I (j:Int))/\w.frozen? ⟨a,1,O⟩=false:=by
 obtain⟨⟨T,f⟩,⟨s,o,cap,rfl,r,l⟩,_,_,_,_⟩:=n;obtain⟨d,p,m⟩:=bE b i t k;obtain⟨rfl,q,c⟩:=l (by intro e;rw[e]at d;simp at d);exact⟨o,cap,rfl,c _ _ d,c _ _ p,c _ _ m,ae f 0,ae f 1,ag f 1⟩
theorem yg.lt{w:World}{a g:Nat}{v:Value}{b:List Tp.Tk}{i:Nat}(c:yg w a g v b i):a < w.heap.size:=by
 obtain⟨⟨T,d⟩,_⟩:=c;exact lt_of_heap d
theorem yg.tok_lt{w:World}{c g:Nat}{v:Value}{a:List Tp.Tk}{i:Nat}{t:Tp.Tk}(d:yg w c g v a i)(j:a[i]? =W t):g < w.heap.size:=by
 obtain⟨_,⟨k,o,cap,rfl,l,f⟩,_⟩:=d;obtain⟨b,_⟩:=bE a i t j;exact(f (by intro e;rw[e]at b;simp at b)).2.1
theorem tA(a g:Nat)(v:Value)(l:List Tp.Tk)(i:Nat)(t:Tp.Tk)(x:Tp.Sc)(w:World)(r:yg w a g v l i)(ac:Glob w)(z:l[i]? =W t)(ad:Tp.fkey t=W x):
 Calls π 311 #[Z (W ⟨a,0,O⟩)] w λe w'=>e=ρ (.tuple #[scV x,.nilIface])/\yg w' a g v l (i+1)/\Far (·=a) w w':=by
 obtain⟨c0,_⟩:=zM.1 z;have ca:=r.small;have A:=λF b4=>rk t (r.all t (zL z)) x ad F b4;obtain⟨o,cap,rfl,X,c3,c4,a4,C,P⟩:=r.tok z;obtain⟨s,a2⟩:∃s:ByteArray,(⟨t.s.toArray⟩:ByteArray)=s:=⟨_,rfl⟩;have an:xR t.s=U s:=by rw[<-a2];rfl
 unfold tkV yK scV at A;rw[an]at c3 A;obtain⟨SX,L⟩:∃SX:ByteArray,xR x.s=U SX:=⟨_,rfl⟩;have ba:scV x=γ #[V I x.k,V I x.n,U SX]:=by unfold scV;rw[L]
 rw[L]at A;rw[ba];have bD:=λF=>uJ (i:Int) (l.length:Int) F;rw[decide_eq_false (by omega:¬(l.length:Int)<=(i:Int))]at bD;obtain⟨b5,a5,bR⟩:=zx3 r A ac;have a1:a < w.heap.size:=r.lt;have H:g < w.heap.size:=r.tok_lt z;generalize (t.a:Int)=M at *;generalize t.k=K at *;clear A r ac z ad a2 an L ba
 go_enter func311,ntmps311
 go_wp2_with fail
 go_quiet (fail)
 go_wp2_with fail
 have a6:yg ((w.alloc (J #[V I 0,V I 0,U ⟨#[]⟩] 30)).drewN nq) a g (Y (W ⟨g,o,O⟩) l.length cap) l i:=(b5.out.alloc _).drewN _;have N:((w.alloc (J #[V I 0,V I 0,U ⟨#[]⟩] 30)).drewN nq).heap[w.heap.size]? =W (J #[V I 0,V I 0,U ⟨#[]⟩] 30 (0,0)):=af w _;have n:Far xO w ((w.alloc (J #[V I 0,V I 0,U ⟨#[]⟩] 30)).drewN nq):=((ξ _ w).alloc _).drewN _;have a0:=bR.out.far n (λ_ _ e=>e);generalize ((w.alloc (J #[V I 0,V I 0,U ⟨#[]⟩] 30)).drewN nq)=b at *;have R:b.cell? ⟨g,o+i * 3,O⟩=W (V I K):=(World.cell?_of_block (w:=w) (n.block _ H (λe=>e))).trans X;have al:b.cell? ⟨g,o+i * 3+1,O⟩=W (U s):=(World.cell?_of_block (w:=w) (n.block _ H (λe=>e))).trans c3;have av:b.cell? ⟨g,o+i * 3+2,O⟩=W (V I M):=(World.cell?_of_block (w:=w) (n.block _ H (λe=>e))).trans c4;have ab:b.cell? ⟨a,0,O⟩=W (Y (W ⟨g,o,O⟩) l.length cap):=(World.cell?_of_block (w:=w) (n.block _ a1 (λe=>e))).trans a4;have ao:b.cell? ⟨a,1,O⟩=W (V I (i:Int)):=(World.cell?_of_block (w:=w) (n.block _ a1 (λe=>e))).trans C;obtain⟨b0,bm,b6,a3⟩:=zx4 n a6 N a0;have c6:(0:Int)<=(i:Int):=by omega
 have ch:(i:Int) < (l.length:Int):=by omega
 have cl:=lt_of_heap N;clear a4 C X c3 c4 P n a6 N a0
 go_cut [4,5]from 6 (λbw b3 wx=>∃q:Nat,bw=Z (W ⟨q,0,O⟩)/\b3=V I 0/\wx.heap[q]? =W (J #[V I x.k,V I x.n,U SX] 30 (0,0))/\b.heap.size<=q/\Far xO b wx)
 case first=>
  have a9:=af b (J #[V I 0,V I 0,U ⟨#[]⟩] 30);have bs:∀wx,Far xO b wx->wx.cell? ⟨a,0,O⟩=W (Y (W ⟨g,o,O⟩) l.length cap)/\wx.cell? ⟨a,1,O⟩=W (V I (i:Int))/\wx.cell? ⟨g,o+i * 3,O⟩=W (V I K)/\wx.cell? ⟨g,o+i * 3+1,O⟩=W (U s)/\wx.cell? ⟨g,o+i * 3+2,O⟩=W (V I M):=λwx f=>by
   exact⟨f.at ab id,f.at ao id,f.at R id,f.at al id,f.at av id⟩
  go_region_held3 (λw'=>w'.cell? ⟨a,0,O⟩=W (Y (W ⟨g,o,O⟩) l.length cap)/\w'.cell? ⟨a,1,O⟩=W (V I (i:Int))/\w'.cell? ⟨g,o+i * 3,O⟩=W (V I K)/\w'.cell? ⟨g,o+i * 3+1,O⟩=W (U s)/\w'.cell? ⟨g,o+i * 3+2,O⟩=W (V I M))
   (exact bs _ (by first|exact ξ _ _|exact(ξ _ _).drew|exact((ξ _ _).alloc _).drew|exact m|exact m.alloc _|exact m.drew|exact(m.alloc _).drew|exact((m.setCell (λc=>absurd c (Nat.lt_irrefl _)) _).setCell (λc=>absurd c (Nat.lt_irrefl _)) _).setCell (λc=>absurd c (Nat.lt_irrefl _)) _))
   (first|(go_at_call 237;refine(a5.out b.drew (a3.out.far ((ξ xO _).drew) (λ_ _ e=>e))).mono ?_;rintro e u ⟨rfl,E⟩;have m:Far xO b u:=((ξ _ b).drew).below E)|(go_at_call 237;refine(a5.out (b.alloc (J #[V I 0,V I 0,U ⟨#[]⟩] 30)).drew (a3.out.far (((ξ xO _).alloc _).drew) (λ_ _ e=>e))).mono ?_;rintro e u ⟨rfl,E⟩;have m:Far xO b u:=(((ξ _ b).alloc _).drew).below E;have d:=(E.block b.heap.size (by simp)).trans a9;have b9:u.cell? ⟨b.heap.size,0,O⟩=W (V I 0):=ae d 0;have cf:u.cell? ⟨b.heap.size,1,O⟩=W (V I 0):=ae d 1;have cv:u.cell? ⟨b.heap.size,2,O⟩=W (U ⟨#[]⟩):=ae d 2;have df:=ag d 0;have c5:=ag d 1;have cm:=ag d 2))
  ·go_wp2_with fail
   go_meet
   case rel=>exact⟨_,rfl,rfl,af _ _,m.size,m.alloc _⟩
  ·go_wp2_with fail
   go_meet
   case rel=>exact⟨_,rfl,rfl,ai (ai (ai d 0 _) 1 _) 2 _,η _,((m.setCell (λc=>absurd c (Nat.lt_irrefl _)) _).setCell (λc=>absurd c (Nat.lt_irrefl _)) _).setCell (λc=>absurd c (Nat.lt_irrefl _)) _⟩
 case rest=>
  obtain⟨q,rfl,rfl,d,c1,f⟩:=hcut;clear ab ao R al av;have y:=bm.out.far f (λe=>e) (λe=>e);have j:=f.heap b6.out (λe=>e);have S:=b0.out.trans f;obtain⟨T,G⟩:=y.blk;have C:=zF G 1 rfl;have P:=ag G 1;obtain⟨b8,be,bn,bb⟩:=zx4 y d j S;clear y G d j S f
  go_upto_region 7 with (fail)
  rw[show ((i:Int)+1)=((i+1:Nat):Int)by omega];have y:=b8.out.moved (i+1) (by omega);have d:(wc.setCell ⟨a,1,O⟩ (V I ((i+1:Nat):Int))).heap[q]? =W (J #[V I x.k,V I x.n,U SX] 30 (0,0)):=(Below.heap_setCell _ _ _ _ (by show q≠a;omega)).trans be.out;have j:(wc.setCell ⟨a,1,O⟩ (V I ((i+1:Nat):Int))).heap[w.heap.size]? =W (J #[V I 0,V I 0,U ⟨#[]⟩] 30 (0,0)):=(Below.heap_setCell _ _ _ _ (by show w.heap.size≠a;omega)).trans bn.out;have f:Far (·=a) w (wc.setCell ⟨a,1,O⟩ (V I ((i+1:Nat):Int))):=Far.setCell (D:=(·=a)) (bb.out.mono (λ_ _ e=>e.elim)) (p:=⟨a,1,O⟩) (λ_=>rfl) _;generalize (wc.setCell ⟨a,1,O⟩ (V I ((i+1:Nat):Int)))=b1 at *;have db:=zF d 0 rfl;have c9:=zF d 1 rfl;have cc:=zF d 2 rfl;have cb:=zF j 0 rfl;have ct:=zF j 1 rfl;have da:=zF j 2 rfl;have c2:=ag j 0;have ck:=ag j 1;have dn:=ag j 2;obtain⟨bk,b2,bx⟩:=zx3 y j f;clear y d j f C P
  go_wp2_with fail
  have a9:∀k,w.heap.size<=k->k < w.heap.size->False:=λk dc co=>by omega
  exact bodyPost_ret (cw results311 _ w.heap.size _ _ _ _ (ai (ai (ai b2.out 0 _) 1 _) 2 _) rfl) rfl ⟨rfl,bk.out.far (((((ξ (·=w.heap.size) b1).setCell (λ_=>rfl) _).setCell (λ_=>rfl) _).setCell (λ_=>rfl) _)) (by omega) (by omega),((bx.out.setCell (λc=>absurd c (Nat.lt_irrefl _)) _).setCell (λc=>absurd c (Nat.lt_irrefl _)) _).setCell (λc=>absurd c (Nat.lt_irrefl _)) _⟩
def Ak(b g:Nat)(v:Value)(c:List Tp.Tk)(j:Nat)(w:World)(t:Tp.Tree)(e:Ending)(w':World):Prop:=(∃a:List Value,e=ρ (.iface 487 (γ a.toArray))/\xS w' (New w) t a)/\yg w' b g v c j/\Far (·=b) w w'
theorem pP(w:World)(b:NS)(k:Int)(a:Tp.B)(x:Tp.Sc):xS w b ⟨k,a,x,[],[]⟩ [V I k,xR a,V I x.k,V I x.n,xR x.s,Y O 0 0,Y O 0 0]:=by
 unfold xS;exact⟨_,_,[],rfl,cy _ _,by unfold xU;rfl,cy _ _⟩
theorem Be(a g:Nat)(v:Value)(c:List Tp.Tk)(i:Nat)(t:Tp.Tk)(x:Tp.Sc)(s:Int)(w:World)(l:yg w a g v c i)(o:Glob w)(f:c[i]? =W t)(n:Tp.fkey t=W x):
 Calls π 293 #[Z (W ⟨a,0,O⟩),V I s] w (Ak a g v c (i+1) w ⟨0,[],x,[],[]⟩):=by
 have b:=tA a g v c i t x w l o f n;obtain⟨SX,p⟩:∃SX:ByteArray,xR x.s=U SX:=⟨_,rfl⟩;have d:=λq=>pP q (New w) 0 [] x;unfold scV at b;rw[p]at b d;obtain⟨m,u⟩:=zx2 b d;clear b d p f n l o
 go_enter func293,ntmps293
 go_wp2_with fail
 refine m.out.mono ?_;rintro e z ⟨rfl,j,k⟩;have y:=zD (j.alloc (J #[V I x.k,V I x.n,U SX] 30));have r:=zD (k.alloc (J #[V I x.k,V I x.n,U SX] 30));clear j k m
 go_wp2_with fail
 go_ret
 exact⟨⟨_,rfl,u.out _⟩,y.out,r.out⟩
theorem tj(a g:Nat)(v:Value)(b:List Tp.Tk)(i:Nat)(t:Tp.Tk)(E:Int)(w:World)(e:yg w a g v b i)(d:b[i]? =W t):
 Calls π 295 #[Z (W ⟨a,0,O⟩),V I E] w (Ak a g v b (i+1) w ⟨3,t.s,Tp.Sc.null,[],[]⟩):=by
 obtain⟨ac,_⟩:=zM.1 d;have ab:=e.small;have f:=e.moved (i+1) (by omega);obtain⟨o,cap,rfl,H,c3,c4,S,G,A⟩:=e.tok d;obtain⟨N,y,r,P,m,F,C,u,R⟩:=(show yg (w.setCell ⟨a,1,O⟩ (V I ((i+1:Nat):Int))) a g (Y (W ⟨g,o,O⟩) b.length cap) b (i+1)from f).tok' d;obtain⟨rfl,rfl⟩:N=o/\y=cap:=by injection r with h1 h2 h3;injection h1 with h1;injection h1 with h1 h4;exact⟨h4.symm,h3.symm⟩
 obtain⟨k,q⟩:∃k:ByteArray,xR t.s=U k:=⟨_,rfl⟩;have j:=λz=>pP z (New w) 3 t.s Tp.Sc.null;rw[q]at j m c3;have n:Far (·=a) w (w.setCell ⟨a,1,O⟩ (V I ((i+1:Nat):Int))):=Far.setCell (D:=(·=a)) (ξ _ w) (p:=⟨a,1,O⟩) (λ_=>rfl) _;obtain⟨s,l,M⟩:=zx3 f n j;have al:(0:Int)<=(i:Int):=by omega
 have T:(i:Int) < (b.length:Int):=by omega
 clear f n j e d r q
 go_enter func295,ntmps295
 go_upto_region 2 with (fail)
 rw[show ((i:Int)+1)=((i+1:Nat):Int)by omega];obtain⟨c,L⟩:∃c:Int,((i+1:Nat):Int)=c:=⟨_,rfl⟩;have x:c - 1=(i:Int):=by omega
 have X:IntKind.i64.wrap (c - 1)=(i:Int):=by rw[x];exact zU _ (by omega)
 rw[L]at C u P m F R s l ⊢;generalize (w.setCell ⟨a,1,O⟩ (V I c))=ad at *;clear S G H c3 c4 A
 go_quiet (fail)
 go_wp2_with fail
 go_ret
 exact⟨⟨_,rfl,M.out _⟩,s.out.drewN _,l.out.drewN _⟩
theorem hO(c g:Nat)(v:Value)(f:List Tp.Tk)(i:Nat)(l:Tp.Tk)(j:List Value)(t:Tp.Tree)(s:NS)(w:World)(D:yg w c g v f i)(N:f[i]? =W l)(a6:∀k,s k->k≠c)(m:xS w s t j):
 Calls π 315 #[Z (W ⟨c,0,O⟩),V I l.k,γ j.toArray] w λe w'=>(e=ρ (.iface 487 (γ j.toArray))/\xS w' s t j)/\yg w' c g v f (i+1)/\Far (·=c) w w':=by
 have ao:xY f i [l.k]=true:=by unfold xY;rw[N];simp
 obtain⟨k,a2,x,bm,b0⟩:=t;have an:=m;unfold xS at an;obtain⟨kv,a0,bw,rfl,L,a4,R⟩:=an;obtain⟨E,F,C,a9⟩:∃a n p,kv=Y a n p:=by obtain⟨a,_,_,p,d,_⟩:=L;exact⟨_,_,_,d⟩
 obtain⟨G,u,q,a3⟩:∃a n p,a0=Y a n p:=by obtain⟨a,_,_,p,d,_⟩:=R;exact⟨_,_,_,d⟩
 subst a9 a3;obtain⟨H,ac⟩:∃o:ByteArray,xR a2=U o:=⟨_,rfl⟩;obtain⟨z,al⟩:∃o:ByteArray,xR x.s=U o:=⟨_,rfl⟩;simp only[ac,al]at m ⊢;have S:Far xO w (w.alloc (J #[V I k,U H,V I x.k,V I x.n,U z,Y E F C,Y G u q] 78)):=(ξ _ w).alloc _;have r:=fg c g v f i l.k _ (D.alloc (J #[V I k,U H,V I x.k,V I x.n,U z,Y E F C,Y G u q] 78));rw[ao]at r;have M:=af w (J #[V I k,U H,V I x.k,V I x.n,U z,Y E F C,Y G u q] 78);have bk:=D.lt;obtain⟨P,av,T,X⟩:=zx4 r m S M;clear r m S M D ao N L a4 R ac al
 go_enter func315,ntmps315
 go_wp2_with fail
 refine P.out.mono ?_;rintro e be ⟨rfl,ad,A⟩;have b:=A.heap X.out (by omega);have bs:=zF b 0 rfl;have bb:=zF b 1 rfl;have bR:=zF b 2 rfl;have bn:=zF b 3 rfl;have b1:=zF b 4 rfl;have bx:=zF b 5 rfl;have bD:=zF b 6 rfl;have y:=(T.out.mono (D':=(·=c)) (λ_ _ e=>e.elim)).trans A;have ab:=xS.far y (λk d _=>a6 k d) _ _ av.out;obtain⟨ba,a1,a5⟩:=zx3 ad y ab;clear ad A b y ab av P X T
 go_wp2_with fail
 go_ret
 exact⟨⟨rfl,a5.out⟩,ba.out,a1.out⟩
theorem xS.form{w:World}{e:NS}{t:Tp.Tree}{a:List Value}(b:xS w e t a):∃k m i c f j n g l o d,a=[V I k,U m,V I i,V I c,U f,Y j n g,Y l o d]:=by
 obtain⟨k,r,x,q,v⟩:=t;unfold xS at b;obtain⟨kv,p,s,rfl,⟨_,_,_,_,rfl,_⟩,u,⟨_,_,_,_,rfl,_⟩⟩:=b;exact⟨_,_,_,_,_,_,_,_,_,_,_,rfl⟩
theorem xS.named{w:World}{f:NS}{t:Tp.Tree}{a q j d e c i:Value}(g:xS w f t [a,q,j,d,e,c,i])(n:Tp.B):xS w f (t.named n) [a,xR n,j,d,e,c,i]:=by
 obtain⟨k,u,x,s,v⟩:=t;unfold xS at g;obtain⟨kv,m,p,b,l,r,o⟩:=g;injection b with b e2;injection e2 with e2 e3;subst b;unfold Tp.Tree.named xS;exact⟨kv,m,p,by rw[e3],l,r,o⟩
theorem v7(x:Value)(a:World):(Instr.typeAssert (.iface 487 x) 433 487 true).run π a=.ok (.tuple #[x,β true]) a:=by kernel_rfl
def zt(n:Nat):Prop:=∀(a g:Nat) (v:Value) (b:List Tp.Tk) (i c:Nat) (t:Tp.Tree) (rest:List Tp.Tk) (w:World),yg w a g v b i->Glob w->10<=a->Tp.fval n c (b.drop i)=W (t,rest)->
 Calls π 269 #[Z (W ⟨a,0,O⟩),V I (c:Int)] w (Ak a g v b (b.length - rest.length) w t)
theorem xS.base{w:World}{b:NS}{t:Tp.Tree}{v:List Value}(a:xS w b t v){w0:World}(c:∀k,b k->w0.heap.size<=k):xS w (New w0) t v:=xS.mono (λk a _=>c k a) t v a
theorem ow(n:Nat)(ac:zt n)(a g:Nat)(v:Value)(b:List Tp.Tk)(i A:Nat)(f:Tp.Tk)(t:Tp.Tree)(rest:List Tp.Tk)(w:World)(d:yg w a g v b i)(c:Glob w)(b9:10<=a)(s:b[i]? =some f)(F:xY b (i+1) [3,4]=false)(T:Tp.fval n A (b.drop (i+1))=some (t,rest)):
 Calls π 294 #[Z (some ⟨a,0,O⟩),V I (A:Int)] w (Ak a g v b (b.length - rest.length) w (t.named f.s)):=by
 obtain⟨c0,_⟩:=zM.1 s;have cl:=d.small;have co:=d.lt;have an:=λW r c=>ac a g v b (i+1) A t rest W r c b9 T;have al:∀nq,yg ((w.drewN nq).setCell ⟨a,1,O⟩ (V I ((i+1:Nat):Int))) a g v b (i+1):=λnq=>(d.drewN nq).moved (i+1) (by omega);have X:∀nq,Far (·=a) w ((w.drewN nq).setCell ⟨a,1,O⟩ (V I ((i+1:Nat):Int))):=λnq=>Far.setCell (D:=(·=a)) ((ξ _ w).drewN nq) (p:=⟨a,1,O⟩) (λ_=>rfl) _;obtain⟨o,cap,rfl,ba,c3,c4,b6,bm,b1⟩:=d.tok s;obtain⟨N,C⟩:∃N:ByteArray,xR f.s=U N:=⟨_,rfl⟩;rw[C]at c3;have c1:(0:Int)<=(i:Int):=by omega
 have cm:(i:Int) < (b.length:Int):=by omega
 obtain⟨b2,a6,cc,bR,b3,b0⟩:=zx6 al X an C F c;clear al X an C F c d s T ac
 go_enter func294,ntmps294
 go_wp2_with fail
 go_quiet (fail)
 go_upto_region 3 with (fail)
 rw[show ((i:Int)+1)=((i+1:Nat):Int)by omega];have r:=b2.out nq;have y:=a6.out nq;have c:=b0.out.far y (λk R e=>by omega);generalize ((w.drewN nq).setCell ⟨a,1,O⟩ (V I ((i+1:Nat):Int)))=q at *;have ad:=c.far ((ξ xO q).alloc (J #[V I 3,V I 4] 3)) (λ_ _ e=>e);have E:=r.alloc (J #[V I 3,V I 4] 3);have l:=jh a g _ b (i+1) [3,4] (by simp) q.heap.size _ E (λj bb=>by
  match j,bb with
  |0,_=>exact aY rfl rfl
  |1,_=>exact aY rfl rfl)
 rw[b3.out]at l;simp only[zO,List.length_nil,Nat.zero_add,Nat.reduceAdd]at l;have a1:Far (·=a) w (q.alloc (J #[V I 3,V I 4] 3)):=y.alloc _;obtain⟨M,cb,ch,be⟩:=zx4 l E ad a1;clear b6 bm ba c3 c4 b1 r y c l E ad a1
 go_wp2_with fail
 refine M.out.mono ?_;rintro e ct ⟨rfl,m,rfl⟩;have G:=cb.out.drewN m;have ab:=ch.out.far ((ξ xO _).drewN m) (λ_ _ e=>e);have P:=be.out.drewN m;clear M;generalize ((q.alloc (J #[V I 3,V I 4] 3)).drewN m)=a9 at *;have ao:=zD (cc.out a9 G ab);have av:=zD P;clear G ab P
 go_wp2_with fail
 refine ao.out.mono ?_;rintro e bD ⟨⟨ck,rfl,x⟩,L,S⟩;obtain⟨k,b5,cf,a2,bn,bs,bw,ca,b4,bx,a3,rfl⟩:=x.form;have cv:=v7 (γ #[V I k,U b5,V I cf,V I a2,U bn,Y bs bw ca,Y b4 bx a3]);have u:=x.named f.s;rw[bR.out]at u;have a0:=av.out.size;have H:=av.out.trans S;have b8:=zD (u.base (w0:=w) (λk R=>Nat.le_trans a0 R));obtain⟨bk,a5⟩:=zx2 L H;clear x u L S H ao a0
 go_wp2_with fail
 go_ret
 have z:=λo=>(ξ xO bD).alloc o;exact⟨⟨_,rfl,xS.far (z _) (λ_ _ _ e=>e) _ _ b8.out⟩,bk.out.far (z _) (λe=>e) (λe=>e),a5.out.trans ((z _).mono (λ_ _ e=>e.elim))⟩
section
attribute [local go_sem] ak
def AD(a:List (Nat × Obj))(b:World):Prop:=∀p∈a,b.heap[p.1]? =W p.2
theorem AD.far{a:List (Nat × Obj)}{D:NS}{c d:World}(f:AD a c)(e:Far D c d)(g:∀p∈a,¬D p.1):AD a d:=λp b=>e.heap (f p b) (g p b)
def ym{α:Type}(one:Nat->α->Nat->Prop)(a:List Tp.Tk)(b:Int):Nat->List α->Nat->Prop
 |p,[],z=>xY a p [b]=true/\z=p
 |p,x::l,z=>xY a p [b]=false/\∃q,one p x q/\((xY a q [7]=true/\ym one a b (q+1) l z)\/(xY a q [7]=false/\l=[]/\z=q))
def ItE{α:Type}(c:α->Value->NS->World->Prop)(xs:List α)(t:Nat)(v:Array Value)(b:NS)(d:World):Prop:=∃x a,xs[t]? =W x/\v=#[a]/\c x a b d
def Ap(w:World)(a:Nat):Nat:=match w.cell? ⟨a,1,O⟩with|some (V _ n)=>n.toNat|_=>0
theorem yg.place{w:World}{a g:Nat}{v:Value}{b:List Tp.Tk}{i:Nat}(c:yg w a g v b i):Ap w a=i:=by
 obtain⟨⟨T,d⟩,_⟩:=c;have:w.cell? ⟨a,1,O⟩=W (V I (i:Int)):=ae d 1;simp[Ap,this]
theorem kF(b:Nat)(f:Int)(c:Value)(g:∃a b d,c=.func a b d)(w:World):Calls π 314 #[Z (W ⟨b,0,O⟩),V I f,c] w λe w'=>e=ρ (φ (.func 326) #[] #[Z (W ⟨w.heap.size,0,O⟩),Z (W ⟨w.heap.size+1,0,O⟩),Z (W ⟨w.heap.size+2,0,O⟩)])/\w'=((w.alloc (J #[Z (W ⟨b,0,O⟩)] 427)).alloc (J #[V I f] 3)).alloc (J #[c] 490):=by
 obtain⟨a,i,d,rfl⟩:=g
 go_enter func314,ntmps314
 go_wp2
 go_ret
 exact⟨rfl,rfl⟩
theorem kT(args:Array Value)(w:World):(callFunc 326 args).run π w=.ok (.enter 326 args) w:=by kernel_rfl
theorem pY(x:Value)(a:World):(Instr.typeAssert (.iface 487 x) 433 436 true).run π a=.ok (.tuple #[γ #[.nilIface],β false]) a:=by kernel_rfl
theorem ux(x:Value)(a:World):(Instr.typeAssert (.iface 496 x) 433 436 true).run π a=.ok (.tuple #[γ #[.nilIface],β false]) a:=by kernel_rfl
theorem ik{α:Type}(av:Nat)(f2:av=313\/av=316)(one:Nat->α->Nat->Prop)(bk:α->Value->NS->World->Prop)(d3:∀x es b2 D c G,bk x es b2 c->Far D c G->(∀k,b2 k->¬D k)->bk x es b2 G)
(b g:Nat)(v:Value)(r:List Tp.Tk)(i:Int)(xs:List α)(cl z bn a6 A ac a4:Nat)(g3:Int)(u:List (Nat × Obj))(bm:u=[(A,.cells #[Z (W ⟨b,0,O⟩)] 427 (0,0)),(ac,.cells #[V I i] 3 (0,0)),(a4,.cells #[φ (.func av) #[] #[Z (W ⟨bn,0,O⟩),Z (W ⟨a6,0,O⟩)]] 490 (0,0)),(bn,.cells #[Z (W ⟨b,0,O⟩)] 427 (0,0)),(a6,.cells #[V I g3] 3 (0,0))])(e3:∀p∈u,p.1≠b/\p.1≠g)
(c5:∀p x q,one p x q->p<=q/\∀c,yg c b g v r p->AD u c->Glob c->Calls π av #[Z (W ⟨bn,0,O⟩),Z (W ⟨a6,0,O⟩)] c λe G=>∃T a5,e=ρ (.iface T (γ a5))/\(T=487\/T=496)/\bk x (.iface T (γ a5)) (λk=>c.heap.size<=k/\k < G.heap.size) G/\yg G b g v r q/\Far (·=b) c G)
(dp:ym one r i cl xs z)(hs:10<=b)(w:World)(fv:g < w.heap.size)(s:AD u w)(d:yg w b g v r cl)(a9:Glob w):
 yQ π 326 #[Z (W ⟨A,0,O⟩),Z (W ⟨ac,0,O⟩),Z (W ⟨a4,0,O⟩)] 3 xs.length (ItE bk xs) (·=b) (λk=>k < 10\/k=g\/∃p∈u,p.1=k) True (λ_ _=>True) (λc=>yg c b g v r z) w:=by
 intro l J hj dc c b9 f0 hF0 b0 e6 e4 ds g8;have e2:∀k,dc k->10<=k/\k≠b/\k≠g/\∀p∈u,k≠p.1:=λk a=>by
  obtain⟨hb,P⟩:=hF0 k a;exact⟨Nat.le_of_not_lt (λa=>P (.inl a)),hb,λa=>P (.inr (.inl a)),λp d e=>P (.inr (.inr ⟨p,d,e.symm⟩))⟩
 have bw:Far xO w c:=Far.of_below b9 _;have hf:g < c.heap.size:=zK fv bw.size
 replace s:=s.far bw (λ_ _ e=>e)
 replace d:=d.far bw (λe=>e) (λe=>e)
 replace a9:=a9.step b9
 obtain⟨base,dn⟩:∃gd,w.heap.size=gd:=⟨_,rfl⟩;rw[dn]at b0 e6;obtain⟨S,cm⟩:∃S,xs.length=S:=⟨_,rfl⟩;have b8:∀f k,k=b->¬f b->y8 (·=b) f base k:=λf k e a=>⟨λg0=>a (e ▸ g0),.inl e⟩;obtain⟨a0,g6,cc,gf,hh,g1⟩:=zx6 b0 ds cm s d a9;obtain⟨fR,dv,d4,gc,ft,f7⟩:=zx6 e2 c5 e3 dp e4 d3;rw[cm];clear b0 ds cm e2 hF0 e4 e6 b9 f0 dn s d a9 c5 e3 dp d3 bw;have f8:(A,Obj.cells #[Z (W ⟨b,0,O⟩)] 427 (0,0))∈u:=by rw[bm];simp
 have fG:(a4,Obj.cells #[φ (.func av) #[] #[Z (W ⟨bn,0,O⟩),Z (W ⟨a6,0,O⟩)]] 490 (0,0))∈u:=by rw[bm];simp
 rcases f2 with rfl|rfl;all_goals (
 go_enter func326,ntmps326
 go_wp2_with fail
 go_step3
 go_wp2_with fail
 go_step3
 go_wp2_with fail
 go_loopw [] (λwr=>∃(t p:Nat) (f:NS),AD u wr/\yg wr b g v r p/\ym one r i p (xs.drop t) z/\t<=S/\Glob wr/\g < wr.heap.size/\J t f wr/\(∀k,f k->10<=k/\k≠b/\k≠g/\∀p∈u,k≠p.1)) (λwr=>r.length+1 - Ap wr b)
 case atStart=>exact⟨0,cl,dc,gf.out,hh.out,gc.out,z_ _,g1.out,hf,g8,fR.out⟩
 case round=>
  obtain⟨t,p,f,s,d,o,ho,da,hu,er,dr⟩:=hrel;have he:=d.place;have b4:wr.cell? ⟨A,0,O⟩=W (Z (W ⟨b,0,O⟩)):=ae (s _ (by rw[bm];exact List.mem_cons_self ..)) 0;have c1:wr.cell? ⟨ac,0,O⟩=W (V I i):=ae (s _ (by rw[bm];exact List.mem_cons_of_mem _ (List.mem_cons_self ..))) 0;obtain⟨L,fz,b3,gb,cb,c2⟩:=zx6 dr s d da er o;clear dr s d da er o;have b1:∀wx,Far xO wr wx->wx.cell? ⟨A,0,O⟩=W (Z (W ⟨b,0,O⟩))/\wx.cell? ⟨ac,0,O⟩=W (V I i):=λwx N=>⟨N.at b4 id,N.at c1 id⟩;have H:∀c bs,Far xO wr c->c.cell? ⟨bs,0,O⟩=W (V I i)->Calls π 312 #[Z (W ⟨b,0,O⟩),Y (W ⟨bs,0,O⟩) 1 1] c λe w'=>e=ρ (β (xY r p [i]))/\∃n,w'=c.drewN n:=λc bs N f3=>jh b g v r p [i] (by simp) bs c (b3.out.far N (λe=>e) (λe=>e)) (λj f1=>by
   match j,f1 with
   |0,_=>exact f3)
  cases y:xs.drop t with
  |nil=>
   have o:=c2.out;rw[y]at o;unfold ym at o;obtain⟨ck,rfl⟩:=o;rw[ck]at H;have bb:=zD H;have bD:t=S:=by have:=congrArg List.length y;rw[zZ,cc.out]at this;simp at this;omega
   subst bD;clear H
   go_wp2_with fail
   go_region_held3 (λw'=>w'.cell? ⟨A,0,O⟩=W (Z (W ⟨b,0,O⟩))/\w'.cell? ⟨ac,0,O⟩=W (V I i)) (exact b1 _ (by repeat (first|exact ξ _ _|refine Far.drew ?_|refine Far.alloc ?_ _|refine Far.drewN ?_ _))) (first|(go_at_call 312;refine(bb.out _ _ (by repeat (first|exact ξ _ _|refine Far.drew ?_|refine Far.alloc ?_ _|refine Far.drewN ?_ _)) (by first|exact aY rfl rfl|exact aY (w:=wr) rfl rfl)).mono ?_;rintro e F ⟨rfl,m,rfl⟩))
   have C:=((ξ xO wr).alloc (.cells #[V I i] 3)).drewN (1+m);have gx:=b3.out.far C (λe=>e) (λe=>e);have gg:=a0.out t f _ _ cb.out (C.mono (λ_ _ e=>e.elim));generalize ((wr.alloc (.cells #[V I i] 3)).drewN (1+m))=X at *
   go_wp2_with fail
   rw[Exit.noGoto_normal]
   go_end0
   exact⟨⟨_,rfl⟩,.inl ⟨f,gg,gx⟩⟩
  |cons x l'=>
   have o:=c2.out;rw[y]at o;unfold ym at o;obtain⟨ck,q,e1,o⟩:=o;rw[ck]at H;have bb:=zD H;clear H
   go_wp2_with fail
   go_region_held3 (λw'=>w'.cell? ⟨A,0,O⟩=W (Z (W ⟨b,0,O⟩))/\w'.cell? ⟨ac,0,O⟩=W (V I i)) (exact b1 _ (by repeat (first|exact ξ _ _|refine Far.drew ?_|refine Far.alloc ?_ _|refine Far.drewN ?_ _))) (first|(go_at_call 312;refine(bb.out _ _ (by repeat (first|exact ξ _ _|refine Far.drew ?_|refine Far.alloc ?_ _|refine Far.drewN ?_ _)) (by first|exact aY rfl rfl|exact aY (w:=wr) rfl rfl)).mono ?_;rintro e F ⟨rfl,m,rfl⟩))
   have C:=((ξ xO wr).alloc (.cells #[V I i] 3)).drewN (1+m);have ch:=b3.out.far C (λe=>e) (λe=>e);have be:=fz.out.far C (λ_ _ e=>e);have b6:=gb.out.far C (λ_ _ e=>e);have df:=a0.out t f _ _ cb.out (C.mono (λ_ _ e=>e.elim));have d0:∀k,f k->k < wr.heap.size:=λk a=>(ft.out t f wr cb.out).2 trivial k a;have hk:=C.size;clear b4 c1 b1 bb;generalize ((wr.alloc (.cells #[V I i] 3)).drewN (1+m))=X at *;have c3:X.cell? ⟨a4,0,O⟩=W _:=ae (be _ fG) 0;have c9:=(dv.out p x q e1).2 X ch be b6;have hr:=(dv.out p x q e1).1;obtain⟨e7,hd,f9,eq,g4⟩:=zx5 c9 d0 df be b6;have hl:b < X.heap.size:=ch.lt;clear c9 d0 df be b6 ch
   go_wp2_with fail
   refine e7.out.mono ?_;rintro e F ⟨T,a5,rfl,f6,fl,c0,db⟩;have hn:∀c,(Instr.typeAssert (.iface T (γ a5)) 433 436 true).run π c=.ok (.tuple #[γ #[.nilIface],β false]) c:=by
    rcases f6 with rfl|rfl
    ·exact pY _
    ·exact ux _
   obtain⟨eg,f5,e9⟩:=zx3 fl c0 db;clear fl c0 db c3 e7
   go_upto_region 3 with (fail)
   refine(wpIn_wide (n:=4)).1 ?_;have a3:Far xO F (F.alloc (.cells #[.nilIface] 436)):=(ξ _ F).alloc _;have d1:=f5.out.far a3 (λe=>e) (λe=>e);have ao:Far (·=b) X (F.alloc (.cells #[.nilIface] 436)):=e9.out.alloc _;have e8:=eq.out.far ao (λp d e=>(d4.out p d).1 e);have d6:=g4.out.far ao (λk s e=>by omega);have ei:=a0.out t f _ _ f9.out (ao.mono (λk _ e=>b8 f k e (λa=>(L.out b a).2.1 rfl)));have e5:=f7.out _ _ _ _ _ _ eg.out a3 (λ_ _ e=>e);have hq:=ao.size;have hv:=a3.size;have a2:t < xs.length:=by
    rcases Nat.lt_or_ge t xs.length with a|a
    ·exact a
    ·rw[List.drop_eq_nil_of_le a]at y;cases y
   have ex:xs[t]? =W x:=by
    rw[zW a2]at y;injection y with y _;rw[zE a2,y]
   have d2:xs.drop (t+1)=l':=by
    rw[zW a2]at y;injection y
   have cv:RowKit.Hid (t+1<=S):=zD (by rw[<-cc.out];exact a2);clear y eg e9;generalize (F.alloc (.cells #[.nilIface] 436))=ge at *;obtain⟨ht,hp,assign,body,hm,ct⟩:=g6.out t a2 f _ _ ge ei ⟨x,_,ex,rfl,e5⟩ (λk a=>⟨λN=>by have:=hd.out k N;have:=a.1;omega,by have:=a.2;omega⟩);obtain⟨hc,ga,ha,gk⟩:=zx4 ct d1 e8 d6;clear ct d1 e8 d6 ei e5 ao a3 ex
   gi_wp2
   refine(hc.out).mono ?_;rintro e b5 ⟨E,⟨M,bx⟩,(⟨rfl,e0⟩|⟨rfl,c6⟩)⟩
   ·have c4:=ga.out.far M (λa=>(L.out _ a).2.1 rfl) (λa=>(L.out _ a).2.2.1 rfl)
    have ca:=ha.out.far M (λp d a=>(L.out _ a).2.2.2 p d rfl);have co:=gk.out.far M (λk s a=>by have:=(L.out _ a).1;omega);have d5:∀k,E k->10<=k/\k≠b/\k≠g/\∀p∈u,k≠p.1:=by
     intro k a;have en:X.heap.size<=k->10<=k/\k≠b/\k≠g/\∀p∈u,k≠p.1:=λs=>⟨by omega,by omega,by omega,λp d e=>by have:=lt_of_heap (eq.out p d);omega⟩;rcases bx k a with a|a|a
     ·exact L.out k a
     ·exact en a.1
     ·exact en (by omega)
    have ab:=fg b g v r q 7 b5 c4;have hg:g < b5.heap.size:=by have:=M.size;omega
    have b4:b5.cell? ⟨A,0,O⟩=W _:=ae (ca _ f8) 0;obtain⟨g7,fr,cf,fn,o⟩:=zx5 ca co d5 e0 o;clear c4 ca co d5 e0 M bx;cases ad:xY r q [7] with
    |true=>
     rw[ad]at ab;have al:=zD ab;clear ab
     gi_wp2
     refine⟨trivial,(callsIn_wide.2 al.out).mono ?_⟩;rintro e f4 ⟨rfl,R,a1⟩;simp only[if_true]at R;obtain⟨an,ba⟩:=zx2 R a1;clear R a1 al
     gi_wp2
     go_wp2_with fail
     go_roundw
     case rel=>
      have g2:ym one r i (q+1) l' z:=by
       rcases o.out with a|a
       ·exact a.2
       ·rw[a.1]at ad;cases ad
      exact⟨t+1,q+1,E,g7.out.far ba.out (λp d e=>(d4.out p d).1 e),an.out,by rw[d2];exact g2,cv.out,fr.out.far ba.out (λk s e=>by omega),zK hg ba.out.size,a0.out _ E _ _ fn.out (ba.out.mono (λk _ e=>b8 E k e (λa=>(cf.out b a).2.1 rfl))),cf.out⟩
     case measure=>rw[he,an.out.place];have:=an.out.le;omega
    |false=>
     rw[ad]at ab;have al:=zD ab;clear ab
     gi_wp2
     refine⟨trivial,(callsIn_wide.2 al.out).mono ?_⟩;rintro e f4 ⟨rfl,R,a1⟩;have gr:l'=[]/\z=q:=by
      rcases o.out with a|a
      ·rw[a.1]at ad;cases ad
      ·exact a.2
     obtain⟨fs,rfl⟩:=gr;have bD:t+1=S:=by
      have:=cv.out;have P:=congrArg List.length d2;rw[fs,zZ,cc.out]at P;simp at P
      omega
     have bR:=a0.out _ E _ _ fn.out (a1.mono (λk _ e=>b8 E k e (λa=>(cf.out b a).2.1 rfl)));rw[bD]at bR;obtain⟨an,gl⟩:=zx2 R bR;clear R a1 al bR
     gi_wp2
     go_wp2_with fail
     rw[Exit.noGoto_normal]
     go_end0
     exact⟨⟨_,rfl⟩,.inl ⟨E,gl.out,an.out⟩⟩
   ·have hi:=zD c6
    clear c6 M bx
    gi_wp2
    refine⟨trivial,?_⟩
    gi_wp2
    go_wp2_with fail
    rw[Exit.noGoto_normal]
    go_end0
    exact⟨⟨_,rfl⟩,.inr ⟨E,hi.out⟩⟩)
end
theorem jm:∀n:Nat,(∀d l t rest,Tp.fval n d l=W (t,rest)->rest <:+l)/\(∀d l i rest,Tp.flist n d l=W (i,rest)->rest <:+l)/\(∀d l k i rest,Tp.fdict n d l=W (k,i,rest)->rest <:+l)
 |0=>⟨λd l t rest a=>by simp[Tp.fval]at a,λd l t rest a=>by simp[Tp.flist]at a,λd l k t rest a=>by simp[Tp.fdict]at a⟩
 |n+1=>by
  obtain⟨m,o,r⟩:=jm n;refine⟨λd l t rest a=>?_,λd l i rest a=>?_,λd l k i rest a=>?_⟩
  ·unfold Tp.fval at a
   split at a
   ·cases a
   match l,a with
   | [],a=>cases a
   |t::u,a=>
    simp only at a;have f:u <:+t::u:=List.suffix_cons t u;split at a
    ·obtain⟨x,_,b⟩:=zN.1 a
     injection b with _ b;exact b ▸ f
    split at a
    ·match u,a with
     | [],a=>cases a
     |y::z,a=>
      simp only at a;split at a
      ·cases a
      ·obtain⟨x,e,b⟩:=zN.1 a
       injection b with _ b;exact b ▸ (m _ _ x.1 x.2 e).trans f
    split at a
    ·injection a with a
     injection a with _ b;exact b ▸ f
    split at a
    ·obtain⟨x,e,b⟩:=zN.1 a
     injection b with _ b;exact b ▸ (o _ _ x.1 x.2 e).trans f
    split at a
    ·obtain⟨x,e,b⟩:=zN.1 a
     injection b with _ b;exact b ▸ (r _ _ x.1 x.2.1 x.2.2 e).trans f
    ·cases a
  ·unfold Tp.flist at a
   match l,a with
   | [],a=>cases a
   |t::u,a=>
    simp only at a;split at a
    ·injection a with a
     injection a with _ b;exact b ▸ List.suffix_cons t u
    cases g:Tp.fval n d (t::u) with
    |none=>rw[g]at a;cases a
    |some y=>
    obtain⟨v,s⟩:=y;rw[g]at a;have f:=m _ _ _ _ g
    match s,a with
    | [],a=>cases a
    |y::z,a=>
     simp only at a;have j:=(List.suffix_cons y z).trans f;split at a
     ·obtain⟨x,e,b⟩:=zN.1 a
      injection b with _ b;exact b ▸ (o _ _ x.1 x.2 e).trans j
     split at a
     ·injection a with a
      injection a with _ b;exact b ▸ j
     ·cases a
  ·unfold Tp.fdict at a
   match l,a with
   | [],a=>cases a
   |t::u,a=>
    simp only at a;split at a
    ·injection a with a
     injection a with _ b;injection b with _ b;exact b ▸ List.suffix_cons t u
    cases p:Tp.fkey t with
    |none=>rw[p]at a;simp at a
    |some x=>
    rw[p]at a
    match u,a with
    | [],a=>simp at a
    |c::s,a=>
     simp only at a;split at a
     ·cases a
     cases g:Tp.fval n d s with
     |none=>rw[g]at a;cases a
     |some y=>
     obtain⟨v,q⟩:=y;rw[g]at a;have f:=((m _ _ _ _ g).trans (List.suffix_cons c s)).trans (List.suffix_cons t (c::s))
     match q,a with
     | [],a=>cases a
     |y::z,a=>
      simp only at a;have j:=(List.suffix_cons y z).trans f;split at a
      ·obtain⟨x,e,b⟩:=zN.1 a
       injection b with _ b;injection b with _ b;exact b ▸ (r _ _ x.1 x.2.1 x.2.2 e).trans j
      split at a
      ·injection a with a
       injection a with _ b;injection b with _ b;exact b ▸ j
      ·cases a
theorem de{α:Type}(a:List α)(p:Nat)(rest:List α)(e:p<=a.length)(b:rest <:+a.drop p):rest=a.drop (a.length - rest.length)/\p<=a.length - rest.length:=by
 have c:=b.length_le;rw[zZ]at c;have d:rest <:+a:=b.trans (List.drop_suffix p a);refine⟨List.suffix_iff_eq_drop.1 d,by omega⟩
theorem aV(b:List Tp.Tk)(p:Nat)(c:List Int):xY b p c=match b.drop p with|t::_=>c.any λd=>t.k==d| []=>false:=by
 unfold xY;rcases Nat.lt_or_ge p b.length with a|a
 ·rw[zW a,zE a]
 ·rw[List.drop_eq_nil_of_le a,List.getElem?_eq_none a]
def AS(n b:Nat)(a:List Tp.Tk)(p:Nat)(x:Tp.Tree)(q:Nat):Prop:=p<=q/\q<=a.length/\∃m,m < n/\Tp.fval m b (a.drop p)=W (x,a.drop q)
theorem gi(b:List Tp.Tk)(n j:Nat):∀(m p:Nat) (r:List Tp.Tree) (rest:List Tp.Tk),m<=n->p<=b.length->Tp.flist m j (b.drop p)=W (r,rest)->∃z t,ym (AS n j b) b 9 p r z/\b[z]? =W t/\t.k=9/\rest=b.drop (z+1)/\p<=z
 |0,p,r,rest,_,_,a=>by simp[Tp.flist]at a
 |m+1,p,r,rest,hm,hp,a=>by
  unfold Tp.flist at a;obtain⟨l,d⟩:∃l,b.drop p=l:=⟨_,rfl⟩;have f:=aV b p [9];rw[d]at a f
  match l,d,f,a with
  | [],d,f,a=>cases a
  |t::u,d,f,a=>
   have E:p < b.length:=by
    rcases Nat.lt_or_ge p b.length with a|a
    ·exact a
    ·rw[List.drop_eq_nil_of_le a]at d;cases d
   have i:=zW E;rw[d]at i;injection i with hd1 hd2;have N:b[p]? =W t:=by rw[zE E,hd1]
   simp only at a f;by_cases o:t.k=9
   ·rw[if_pos o]at a
    injection a with a;injection a with C A;subst C A;refine⟨p,t,?_,N,o,hd2,η _⟩;unfold ym;exact⟨by rw[f,o];rfl,rfl⟩
   ·rw[if_neg o]at a
    have F:xY b p [9]=false:=by rw[f];simp[o]
    cases e:Tp.fval m j (t::u) with
    |none=>rw[e]at a;cases a
    |some y=>
    obtain⟨v,s⟩:=y;rw[e]at a;have H:=(jm m).1 _ _ _ _ e;rw[<-d]at H e;obtain⟨c,D⟩:=de b p s hp H;obtain⟨q,S⟩:∃q,b.length - s.length=q:=⟨_,rfl⟩;rw[S]at c D;have ab:q<=b.length:=by omega
    have g:=λk=>aV b q [k];rw[<-c]at g
    match s,c,e,g,a with
    | [],c,e,g,a=>cases a
    |y::z,c,e,g,a=>
     have L:q < b.length:=by
      rcases Nat.lt_or_ge q b.length with a|a
      ·exact a
      ·rw[List.drop_eq_nil_of_le a]at c;cases c
     have i:=zW L;rw[<-c]at i;injection i with hd1 hd2;have G:AS n j b p v q:=⟨D,ab,m,by omega,by rw[<-c];exact e⟩;simp only at a g;by_cases w:y.k=7
     ·rw[if_pos w]at a
      obtain⟨x,C,A⟩:=zN.1 a;injection A with e1 e2;obtain⟨P,M,X,R,ac,T,ad⟩:=gi b n j m (q+1) x.1 x.2 (by omega) (by omega) (by rw[<-hd2];exact C);refine⟨P,M,?_,R,ac,e2 ▸ T,by omega⟩;rw[<-e1];unfold ym;exact⟨F,q,G,.inl ⟨by rw[g];simp[w],X⟩⟩
     ·rw[if_neg w]at a
      split at a
      ·rename_i h9'
       injection a with a;injection a with e1 e2;subst e1;refine⟨q,y,?_,by rw[zE L,<-hd1],h9',by rw[<-e2,hd2],D⟩;unfold ym;exact⟨F,q,G,.inr ⟨by rw[g];simp[w],rfl,rfl⟩⟩
      ·cases a
theorem kR(args:Array Value)(w:World):(callFunc 397 args).run π w=.ok (.enter 397 args) w:=by kernel_rfl
theorem pQ(x:Value)(a:World):(Go.method 653 487 x "sigillary/flow.tree").run π a=.ok (397,x) a:=by kernel_rfl
theorem gS:(prog.info? 78).map (·.size)=W 7:=by kernel_rfl
theorem j0{d:Func}{a:Tmp}(f:d.results=#[.cell a 78])(b:World)(q:Nat)(x:Array Value)(c:Array Value)(i:b.heap[q]? =W (J x 78 (0,0)))(k:x.size=7)(j:c.getD a undef=Z (W ⟨q,0,O⟩)):
 (results d c).run π b=.ok (γ x) b:=by
 have e:c[a]?.getD undef=Z (W ⟨q,0,O⟩):=by simpa using j
 have g:=run_loadVar_row (P:=π) b q 78 78 x (0,0) _ i underlying78 rfl (by rw[k];exact gS);simp[results,f,asAddr,e,g,Sem.run_bind,Result.andThen]
theorem iL(k b d:Int)(i a:ByteArray)(f g:Option Addr)(j c m l:Nat)(w:World):Calls π 397 #[γ #[V I k,U i,V I b,V I d,U a,Y f j c,Y g m l]] w λe w'=>e=ρ (γ #[V I k,U i,V I b,V I d,U a,Y f j c,Y g m l])/\Below w.heap.size w w':=by
 go_enter func397,ntmps397
 go_wp2_with fail
 exact bodyPost_ret (j0 results397 _ (w.heap.size+1) #[V I k,U i,V I b,V I d,U a,Y f j c,Y g m l] _ (ah _ _ _ (by simp)) rfl rfl) rfl ⟨rfl,((ζ _ w).alloc (η _) _).alloc (by simp) _⟩
theorem kP(b:List Tp.Tk)(n d p:Nat)(x:Tp.Tree × List Tp.Tk)(a:Tp.fval n d (b.drop p)=W x):xY b p [7,11]=false/\d<=24/\xY b p []=false:=by
 rw[aV,aV];cases n with
 |zero=>simp[Tp.fval]at a
 |succ n=>
  unfold Tp.fval at a;split at a
  ·cases a
  rename_i hd
  refine⟨?_,by omega,by split<;>rfl⟩;split
  ·rename_i t u e
   rw[e]at a;simp only at a;simp only[List.any_cons,List.any_nil,Bool.or_false,Bool.or_eq_false_iff,beq_eq_false_iff_ne];refine⟨λc=>?_,λc=>?_⟩<;>rw[c]at a<;>simp at a
  ·rfl
def A3(b g:Nat)(v:Value)(c:List Tp.Tk)(j:Nat)(w:World)(x:Tp.Sc)(t:Tp.Tree)(e:Ending)(w':World):Prop:=(∃a:List Value,e=ρ (.iface 496 (γ (V I x.k::V I x.n::xR x.s::a).toArray))/\xS w' (New w) t a)/\yg w' b g v c j/\Far (·=b) w w'
theorem qr(n:Nat)(bD:zt n)(b g:Nat)(v:Value)(a:List Tp.Tk)(i f:Nat)(F:Tp.Tk)(x:Tp.Sc)(t:Tp.Tree)(rest:List Tp.Tk)(w:World)(an:yg w b g v a i)(o:Glob w)(ch:10<=b)(a1:a[i]? =W F)(a6:Tp.fkey F=W x)(bb:xY a (i+1) [6]=true)(M:Tp.fval n f (a.drop (i+2))=W (t,rest)):
 Calls π 317 #[Z (W ⟨b,0,O⟩),V I (f:Int)] w (A3 b g v a (a.length - rest.length) w x t):=by
 have c1:=an.lt;have c:=tA b g v a i F x w an o a1 a6;have b2:=λE z o=>bD b g v a (i+2) f t rest E z o ch M;obtain⟨a0,c0,_⟩:=kP a n f (i+2) _ M;have b9:=λE=>uI (f:Int) 24 E;rw[decide_eq_false (by omega:¬(24:Int) < (f:Int))]at b9;unfold scV at c;unfold A3;obtain⟨SX,ba⟩:∃SX:ByteArray,xR x.s=U SX:=⟨_,rfl⟩;rw[ba]at c ⊢;obtain⟨bs,cl,cc,ck,ca⟩:=zx5 c b2 a0 bb o;clear c b2 a0 bb o an a1 a6 M ba bD
 go_enter func317,ntmps317
 go_wp2_with fail
 refine bs.out.mono ?_;rintro e ac ⟨rfl,bR,av⟩;have z:=bR.alloc (J #[V I x.k,V I x.n,U SX] 30);have bn:Far (·=b) w (ac.alloc (J #[V I x.k,V I x.n,U SX] 30)):=av.alloc _;have b1:=af ac (J #[V I x.k,V I x.n,U SX] 30);have ad:=fg b g v a (i+1) 6 _ z;rw[ck.out]at ad;have c5:=av.size;obtain⟨a4,be,a2⟩:=zx3 ad bn b1;clear bR av z bn b1 ad bs
 go_wp2_with fail
 refine a4.out.mono ?_;rintro e r ⟨rfl,y,N⟩;simp only[if_true]at y;have b0:=be.out.trans N;have bw:=N.heap a2.out (by omega);have s:=jh b g v a (i+2) [7,11] (by simp) r.heap.size _ (y.alloc (J #[V I 7,V I 11] 3)) (λj b6=>by
  match j,b6 with
  |0,_=>exact aY rfl rfl
  |1,_=>exact aY rfl rfl)
 rw[cc.out]at s;simp only[zO,List.length_nil,Nat.zero_add,Nat.reduceAdd]at s;have l:∀m,yg ((r.alloc (J #[V I 7,V I 11] 3)).drewN m) b g v a (i+2):=λm=>(y.alloc _).drewN m;have d:∀m,Far (·=b) w ((r.alloc (J #[V I 7,V I 11] 3)).drewN m):=λm=>(b0.alloc _).drewN m;have p:∀m,((r.alloc (J #[V I 7,V I 11] 3)).drewN m).heap[ac.heap.size]? =W (J #[V I x.k,V I x.n,U SX] 30 (0,0)):=λm=>aa _ bw;obtain⟨a9,bk,q,u⟩:=zx4 s l d p;clear s l d p y N b0 bw a4 be a2
 go_wp2_with fail
 refine a9.out.mono ?_;rintro e c2 ⟨rfl,m,rfl⟩;have l:=bk.out m;have d:=q.out m;have p:=u.out m;generalize ((r.alloc (J #[V I 7,V I 11] 3)).drewN m)=b5 at *;have bx:=ca.out.far d (λk c e=>by omega);have b3:=zD (cl.out b5 l bx);obtain⟨q,u⟩:=zx2 d p;clear l d p bx a9 bk
 go_wp2_with fail
 refine b3.out.mono ?_;rintro e b8 ⟨⟨ct,rfl,G⟩,a5,L⟩;obtain⟨k,ab,ao,C,H,P,R,al,X,T,D,rfl⟩:=G.form;have c4:=v7 (γ #[V I k,U ab,V I ao,V I C,U H,Y P R al,Y X T D]);have cb:=q.out.size;have bm:=q.out.trans L;have a3:=G.base (w0:=w) (λk c=>Nat.le_trans cb c);have A:=aa (J #[V I k,U ab,V I ao,V I C,U H,Y P R al,Y X T D] 487) (L.heap u.out (by omega));have cv:=zF A 0 rfl;have c3:=zF A 1 rfl;have co:=zF A 2 rfl;obtain⟨cf,cm,b4⟩:=zx3 a3 a5 bm;clear G a3 a5 L bm A b3 q u
 go_wp2_with fail
 go_ret
 have S:=(ξ xO b8).alloc (J #[V I k,U ab,V I ao,V I C,U H,Y P R al,Y X T D] 487);exact⟨⟨_,rfl,xS.far S (λ_ _ _ e=>e) _ _ cf.out⟩,cm.out.far S (λe=>e) (λe=>e),b4.out.trans (S.mono (λ_ _ e=>e.elim))⟩
end Go.Proofs.YtbikgdhbiebhcaaGreatDoor
