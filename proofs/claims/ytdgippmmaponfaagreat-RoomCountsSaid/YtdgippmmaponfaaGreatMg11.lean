/- Contracts of the functions that the law reaches, and plain laws; no conditions but those written at each. -/
import Derived.Test.YtdgippmmaponfaaGreatMg10
import Derived.Deep.AppendLies
namespace Go.Proofs.YtdgippmmaponfaaGreat
open Go.Value renaming bool->μ,slice->δ,pointer->π,agg->θ
open Go.IntKind renaming i64->ι,u8->υ,u16->φ,u32->ω,i32->χ,u64->ψ
set_option linter.unusedSimpArgs false
set_option maxHeartbeats 8000000
set_option linter.unusedVariables false
open Go.RowKit
set_option maxRecDepth 100000
structure Msg where
 kind:Int
 snd:Int
 med:Int
 asks:List (Int×Int)
 lost:List Int
def Msg.tup (b:Msg):Int×Int×Int×List (Int×Int)×List Int:=(b.kind,b.snd,b.med,b.asks,b.lost)
theorem Msg.tup_inj {a b:Msg} (h:a.tup=b.tup):a=b:=by
 obtain⟨⟩:=a;obtain⟨⟩:=b;simp only[Msg.tup,Prod.mk.injEq] at h;simp[h]
instance:DecidableEq Msg:=λ_ _=>decidable_of_iff _ ⟨Msg.tup_inj,λh=>by rw[h]⟩
structure Zz (m:Msg):Prop where
 snd:U32 m.snd
 med:U32 m.med
 asks: ∀a∈m.asks,U32 a.1/\U8 a.2
 lost: ∀x∈m.lost,U16 x
def JI:Msg:=⟨0,0,0,[],[]⟩
theorem gC:Zz JI:=⟨ζ,ζ,(λa h=>by cases h),(λa h=>by cases h)⟩
def Zv (k:Int):Int×Int:=if k=1 then (206,1) else if k=2 then (206,4) else (205,1)
def zy (c:qQ):Int:=if c.2.1=206/\c.1=1 then 1 else if c.2.1=206/\c.1=4 then 2 else if c.2.1=205/\c.1=1 then 3 else 0
def wu (s:RdS):(Int×Int)×RdS:=((xP s,num (tkB (tkS s 4).1 1)),tkS (tkS (tkS s 4) 1) 3)
def jm:Nat->List (Int×Int)->RdS->List (Int×Int)×RdS
 | 0,acc,s=>(acc,s)
 | n+1,acc,s=>if s.1=[] then (acc,s) else jm n (acc++[(wu s).1]) (wu s).2
def prS (s:RdS):(Int×Int)×RdS:=((num (tkB s.1 2),num (tkB (tkS s 2).1 2)),tkS (tkS s 2) 2)
def gm (acc:List Int) (p:Int×Int) (s:RdS):RdS:=if ¬acc=[]/\ ¬0<ahd (acc.getLastD 0) p.1 then wrS s 2 else s
def jc:Nat->List Int->RdS->List Int×RdS
 | 0,acc,s=>(acc,s)
 | n+1,acc,s=>if s.1=[] then (acc,s) else jc n (acc++prN (prS s).1) (gm acc (prS s).1 (prS s).2)
def zz (b:Int) (s:RdS):RdS:=if ¬b=0∨s.1.length=0∨ ¬s.1.length%8=0 then wrS s 2 else s
def xK (s:RdS):RdS:=if s.1.length=0 then wrS s 2 else s
def vX (m:Msg) (s:RdS):Msg×Int:=if wM s=0 then (m,0) else (JI,wM s)
def vD (k a b:Int) (s:RdS):Msg×Int:=
 if k=2 then vX ⟨2,a,b,(jm s.1.length [] (zz b s)).1,[]⟩ (jm s.1.length [] (zz b s)).2
 else if k=3 then vX ⟨3,a,b,[],(jc s.1.length [] (xK s)).1⟩ (jc s.1.length [] (xK s)).2
 else vX ⟨k,a,b,[],[]⟩ s
def qJ (c:qQ):Msg×Int:=
 if jx c=false then (JI,1)
 else if zy c=0 then (JI,5)
 else vD (zy c) (xP (c.2.2.1,0)) (xP (tkS (c.2.2.1,0) 4)) (tkS (tkS (c.2.2.1,0) 4) 4)
theorem zE (n:Nat) (acc:List (Int×Int)) (e:Int):jm n acc ([],e)=(acc,([],e)):=by
 cases n with
 | zero=>rfl
 | succ n=>unfold jm;rw[if_pos rfl]
theorem wE (n:Nat) (acc:List Int) (e:Int):jc n acc ([],e)=(acc,([],e)):=by
 cases n with
 | zero=>rfl
 | succ n=>unfold jc;rw[if_pos rfl]
theorem WR {s:RdS} (h:Byt s.1):U16 (num (tkB s.1 2)):=by
 have:=zv (tkB s.1 2) 2 (jL h 2) (zh s.1 2 ζ) ζ;exact⟨this.1,τ⟩
theorem Iq {s:RdS} (h:Byt s.1):U8 (num (tkB s.1 1)):=by
 have:=zv (tkB s.1 1) 1 (jL h 1) (zh s.1 1 ζ) ζ;exact⟨this.1,τ⟩
theorem Jx {s:RdS} (h:Byt s.1):U32 (xP s):=by
 have:=zv (tkB s.1 4) 4 (jL h 4) (zh s.1 4 ζ) ζ;exact⟨this.1,by show num (tkB s.1 4)<=4294967295;omega⟩
theorem Gc {s:RdS} (h:Byt s.1):U32 (wu s).1.1/\U8 (wu s).1.2/\Byt (wu s).2.1:=⟨Jx h,Iq (jK h 4),jK (jK (jK h 4) 1) 3⟩
theorem DZ {s:RdS} (h:Byt s.1):U16 (prS s).1.1/\U16 (prS s).1.2/\Byt (prS s).2.1:=⟨WR h,WR (jK h 2),jK (jK h 2) 2⟩
theorem BM {acc:List Int} {p:Int×Int} {s:RdS} (h:Byt s.1):Byt (gm acc p s).1:=by
 unfold gm;split
 ·exact gu h 2
 ·exact h
theorem Jw {p:Int×Int} (h:U16 p.1): ∀x∈prN p,U16 x:=by
 intro x d;unfold prN at d;rcases List.mem_cons.1 d with rfl | d
 ·exact h
 ·obtain⟨k,_,rfl⟩:=List.mem_map.1 d;constructor<;>omega
theorem gY: ∀(n:Nat) (acc:List (Int×Int)) (s:RdS),Byt s.1->(∀a∈acc,U32 a.1/\U8 a.2)-> ∀a∈(jm n acc s).1,U32 a.1/\U8 a.2
 | 0,_,_,_,h=>h
 | n+1,acc,s,hb,h=>by
  unfold jm;split
  ·exact h
  ·obtain⟨H,G,a3⟩:=Gc hb;refine gY n _ _ a3 λa d=> ?_
   rcases List.mem_append.1 d with d | d
   ·exact h a d
   ·rw[List.mem_singleton] at d;subst d;exact⟨H,G⟩
theorem gX: ∀(n:Nat) (acc:List Int) (s:RdS),Byt s.1->(∀a∈acc,U16 a)-> ∀a∈(jc n acc s).1,U16 a
 | 0,_,_,_,h=>h
 | n+1,acc,s,hb,h=>by
  unfold jc;split
  ·exact h
  ·obtain⟨G,H,a3⟩:=DZ hb;refine gX n _ _ (BM a3) λa d=> ?_
   rcases List.mem_append.1 d with d | d
   ·exact h a d
   ·exact Jw G a d
theorem QF {m:Msg} {s:RdS} (h:Zz m):Zz (vX m s).1:=by
 unfold vX;split
 ·exact h
 ·exact gC
theorem Dk {b:Int} {s:RdS} (h:Byt s.1):Byt (zz b s).1:=by
 unfold zz;split
 ·exact gu h 2
 ·exact h
theorem Pt {s:RdS} (h:Byt s.1):Byt (xK s).1:=by
 unfold xK;split
 ·exact gu h 2
 ·exact h
theorem Bb {k a b:Int} {s:RdS} (I:Byt s.1) (H:U32 a) (G:U32 b):Zz (vD k a b s).1:=by
 unfold vD;split
 ·exact QF ⟨H,G,gY _ _ _ (Dk I) (λx d=>by cases d),(λx d=>by cases d)⟩
 ·split
  ·exact QF ⟨H,G,(λx d=>by cases d),gX _ _ _ (Pt I) (λx d=>by cases d)⟩
  ·exact QF ⟨H,G,(λx d=>by cases d),(λx d=>by cases d)⟩
theorem Bg {c:qQ} (G:xk c):Zz (qJ c).1:=by
 have d:Byt ((c.2.2.1,0):RdS).1:=G.byt;unfold qJ;split
 ·exact gC
 ·split
  ·exact gC
  ·exact Bb (jK (jK d 4) 4) (Jx d) (Jx (jK d 4))
theorem UP {c:qQ} (h: ¬zy c=0):Zv (zy c)=(c.2.1,c.1)/\(zy c=1∨zy c=2∨zy c=3):=by
 unfold zy at h ⊢;unfold Zv;split
 ·rename_i e;exact⟨by rw[e.1,e.2];rfl,η⟩
 ·split
  ·rename_i e;exact⟨by rw[e.1,e.2];rfl,η⟩
  ·split
   ·rename_i e;exact⟨by rw[e.1,e.2];rfl,η⟩
   ·rename_i H G d;rw[if_neg H,if_neg G,if_neg d] at h;exact absurd rfl h
def Γp (x:Msg) (a:Option Addr) (b:Nat) (c:Option Addr) (d:Nat):Mm:=.o
instance (x:Msg) (a:Option Addr) (b:Nat) (c:Option Addr) (d:Nat):CoeDep Mm (Γp x a b c d) (List Value):=⟨[ι x.kind,ω x.snd,ω x.med,δ a x.asks.length b,δ c x.lost.length d]⟩
instance (x:Msg) (a:Option Addr) (b:Nat) (c:Option Addr) (d:Nat):CoeDep Mm (Γp x a b c d) (Array Value):=⟨#[ι x.kind,ω x.snd,ω x.med,δ a x.asks.length b,δ c x.lost.length d]⟩
instance (x:Msg) (a:Option Addr) (b:Nat) (c:Option Addr) (d:Nat):CoeDep Mm (Γp x a b c d) Value:=⟨θ #[ι x.kind,ω x.snd,ω x.med,δ a x.asks.length b,δ c x.lost.length d]⟩
theorem UR {L:List Int} (ac:Byt L) (h:20<=L.length): ∃i r,L=Yf i++r/\Wv i/\Byt r:=by
 obtain⟨ab,ak,rfl,ad,J⟩:=xv ac τ;rw[List.length_append,qK _ _ ζ] at h;obtain⟨O,ah,rfl,N,U⟩:=xv J (by simp at h;omega);rw[List.length_append,qK _ _ ζ] at h;obtain⟨d,aj,rfl,af,aa⟩:=xv U (by simp at h;omega);rw[List.length_append,qK _ _ ζ] at h;obtain⟨ag,ai,rfl,G,ae⟩:=xv aa (by simp at h;omega);rw[List.length_append,qK _ _ ζ] at h;obtain⟨I,H,rfl,M,Y⟩:=xv ae (by simp at h;omega);exact⟨⟨ab,O,d,ag,I⟩,H,by unfold Yf;simp only[List.append_assoc],⟨ad,N,af,G,M⟩,Y⟩
theorem U4 {L:List Int} (an:Byt L) (h:24<=L.length): ∃b r,L=JK b++r/\QS b/\kD b=true/\Byt r:=by
 obtain⟨al,az,rfl,ao,Y⟩:=xv an τ;rw[List.length_append,qK _ _ ζ] at h;obtain⟨I,av,rfl,U,H,ae⟩:=wU 1 ζ Y (by simp at h;omega);rw[List.length_append,qK _ _ ζ] at h;obtain⟨d,ay,rfl,aA,G,ai⟩:=wU 3 ζ ae (by simp at h;omega);rw[List.length_append,qK _ _ ζ] at h;obtain⟨au,ax,rfl,M,ap⟩:=xv ai (by simp at h;omega);rw[List.length_append,qK _ _ ζ] at h;obtain⟨O,aw,rfl,aa,af⟩:=xv ap (by simp at h;omega);rw[List.length_append,qK _ _ ζ] at h;obtain⟨ag,aB,rfl,aq,N⟩:=xv af (by simp at h;omega);rw[List.length_append,qK _ _ ζ] at h;obtain⟨J,ar,rfl,ah,aj⟩:=xv N (by simp at h;omega);have H:I<256:=H;have G:d<16777216:=G;have ac:=KR d 24 ζ ζ;have ab:=Ej d 24 ζ ζ;have ad:two 24=16777216:=by decide
 have ak:two (24-1)=8388608:=by decide
 rw[ak] at ac;rw[ad] at ab;have am:qy (sgd d 24%4294967296) 3=qy d 3:=by
  rw[<-QH,<-QH d]
  congr 1
  omega
 refine⟨⟨al,I,sgd d 24,au,O,ag,J⟩,ar, ?_,⟨ao,⟨U,by simp only;omega⟩,⟨by simp only;omega,by simp only;omega⟩,M,aa,aq,ah⟩, ?_,aj⟩
 ·unfold JK;simp only[List.append_assoc,am];rfl
 ·unfold kD;simp only[decide_eq_true_eq];omega
theorem wX: ∀(n:Nat) {L:List Int},Byt L->24* n<=L.length-> ∃l r,l.length=n/\L=flR l++r/\(∀b∈l,QS b/\kD b=true)/\Byt r
 | 0,L,hb,_=>⟨[],L,rfl,rfl,(λb h=>by cases h),hb⟩
 | n+1,L,hb,h=>by
  obtain⟨b,r,rfl,J,M,N⟩:=U4 hb τ;rw[List.length_append,VW] at h;obtain⟨l,I,O,rfl,H,G⟩:=wX n N τ;refine⟨b::l,I,by rw[List.length_cons,O],by rw[Xm,List.append_assoc],λc d=> ?_,G⟩;simp at d;rcases d with rfl | d
  ·exact⟨J,M⟩
  ·exact H c d
theorem WY:Wv Jj:=⟨ζ,ζ,ζ,ζ,ζ⟩
theorem Zk {c:qQ} (ai:xk c) (h:(qG c).2=0): ∃r,Zx r/\vN r=true/\Qm r=(c,0):=by
 have Y:jx c=true:=by
  cases x:jx c with
  | true=>rfl
  | false=>unfold qG at h;rw[if_pos x] at h;cases h
 have aa:c.2.1=200∨c.2.1=201:=by
  by_cases h1:c.2.1=200
  ·exact Or.inl h1
  ·by_cases h2:c.2.1=201
   ·exact Or.inr h2
   ·unfold qG at h;rw[if_neg (by rw[Y];simp),if_neg h1,if_neg h2] at h;cases h
 have I:=GJ c Y aa;rw[h] at I;have d:c.2.2.1.length=QM c:=by
  by_cases h1:c.2.2.1.length<QM c
  ·rw[if_pos h1] at I;cases I
  ·by_cases h2:QM c<c.2.2.1.length
   ·rw[if_neg h1,if_pos h2] at I;cases I
   ·omega
 obtain⟨ae,ah,H⟩:=(zO c).1 Y;obtain⟨k,t,B,⟨⟩⟩:=c;obtain⟨⟨af,am⟩,_,G⟩:=ai;simp only at d ae ah H af am G aa;unfold QM at d;simp only at d;obtain⟨N,an,rfl,ad,ac⟩:=xv G τ;rw[List.length_append,qK _ _ ζ] at d H;have ak:(4:Int).toNat=4:=rfl;rw[ak] at d H;rcases aa with rfl | rfl
 ·rw[if_pos rfl] at d;obtain⟨i,ao,rfl,al,aj⟩:=UR ac τ;rw[List.length_append,VN] at d H;obtain⟨l,ab,ag,rfl,M,_⟩:=wX k.toNat aj τ;rw[List.length_append,YG] at d H;have U:ab=[]:=List.eq_nil_of_length_eq_zero τ;subst U;have J:vN ⟨true,N,i,l⟩=true:=(kM _).2 ⟨(λh=>by cases h),λb G=>(M b G).2,by simp;omega⟩;refine⟨⟨true,N,i,l⟩,⟨ad,al,λb G=>(M b G).1⟩,J, ?_⟩;rw[kK J];have O:((l.length:Int))=k:=by omega
  simp only[O,if_true]
  congr 4
  unfold Za Zu;simp
 ·rw[if_neg ζ] at d;obtain⟨l,ab,ag,rfl,M,_⟩:=wX k.toNat ac τ;rw[List.length_append,YG] at d H;have U:ab=[]:=List.eq_nil_of_length_eq_zero τ;subst U;have J:vN ⟨false,N,Jj,l⟩=true:=(kM _).2 ⟨λh=>rfl,λb G=>(M b G).2,by simp;omega⟩;refine⟨⟨false,N,Jj,l⟩,⟨ad,WY,λb G=>(M b G).1⟩,J, ?_⟩;rw[kK J];have O:((l.length:Int))=k:=by omega
  simp only[O];unfold Za Zu;simp
theorem YP {c:qQ} {r:Rep} (M:xk c) (h:qG c=(r,0)):Qm r=(c,0)/\Zx r/\vN r=true:=by
 obtain⟨J,H,I,G⟩:=Zk M (by rw[h]);have d:=YW H I;rw[G,h] at d;obtain rfl:r=J:=by injection d
 exact⟨G,H,I⟩
structure Itm where
 kind:Int
 rep:Rep
 msg:Msg
 oth:qQ
instance:DecidableEq Itm:=λa b=>decidable_of_iff (a.kind=b.kind/\a.rep=b.rep/\a.msg=b.msg/\(a.oth.1=b.oth.1/\a.oth.2.1=b.oth.2.1/\a.oth.2.2.1=b.oth.2.2.1)) (by
 obtain⟨ka,ra,ma,o1,o2,o3,⟨⟩⟩:=a;obtain⟨kb,rb,mb,p1,p2,p3,⟨⟩⟩:=b
 simp)
structure Wu (x:Itm):Prop where
 rep:Zx x.rep
 msg:Zz x.msg
 oth:xk x.oth
def Gj:qQ:=(0,0,[],())
def wL:Itm:=⟨0,Qh,JI,Gj⟩
def vg:List Int->Int
 | []=>0
 | e::l=>if e=0 then vg l else e
def qv (c:qQ):Itm×Int:=
 if c.2.1=200∨c.2.1=201 then (⟨1,(qG c).1,JI,Gj⟩,(qG c).2)
 else if (qJ c).2=5 then (⟨3,Qh,JI,c⟩,0) else (⟨2,Qh,(qJ c).1,Gj⟩,(qJ c).2)
def zx (b:List Int):List Itm×Int:=
 if (jI b).2=0 then (if vg ((jI b).1.map λc=>(qv c).2)=0 then ((jI b).1.map λc=>(qv c).1,0) else ([],vg ((jI b).1.map λc=>(qv c).2))) else ([],(jI b).2)
theorem WJ:Zx Qh:=⟨ζ,by constructor<;>decide,(λb h=>by cases h)⟩
theorem WQ:xk Gj:=⟨ζ,ζ,Byt.of_all (l:=[]) rfl⟩
def Γo (x:Itm) (a:Option Addr) (b:Nat) (c:Option Addr) (d:Nat) (e:Option Addr) (f:Nat) (g:Option Addr) (h:Nat):Mm:=.o
instance (x:Itm) (a:Option Addr) (b:Nat) (c:Option Addr) (d:Nat) (e:Option Addr) (f:Nat) (g:Option Addr) (h:Nat):CoeDep Mm (Γo x a b c d e f g h) (List Value):=⟨[ι x.kind,μ x.rep.snd,ω x.rep.src,ω x.rep.inf.sec,ω x.rep.inf.frac,ω x.rep.inf.stamp,ω x.rep.inf.pkts,ω x.rep.inf.octs,δ a x.rep.bl.length b,ι x.msg.kind,ω x.msg.snd,ω x.msg.med,δ c x.msg.asks.length d,δ e x.msg.lost.length f,υ x.oth.1,υ x.oth.2.1,δ g x.oth.2.2.1.length h]⟩
instance (x:Itm) (a:Option Addr) (b:Nat) (c:Option Addr) (d:Nat) (e:Option Addr) (f:Nat) (g:Option Addr) (h:Nat):CoeDep Mm (Γo x a b c d e f g h) (Array Value):=⟨#[ι x.kind,μ x.rep.snd,ω x.rep.src,ω x.rep.inf.sec,ω x.rep.inf.frac,ω x.rep.inf.stamp,ω x.rep.inf.pkts,ω x.rep.inf.octs,δ a x.rep.bl.length b,ι x.msg.kind,ω x.msg.snd,ω x.msg.med,δ c x.msg.asks.length d,δ e x.msg.lost.length f,υ x.oth.1,υ x.oth.2.1,δ g x.oth.2.2.1.length h]⟩
instance (x:Itm) (a:Option Addr) (b:Nat) (c:Option Addr) (d:Nat) (e:Option Addr) (f:Nat) (g:Option Addr) (h:Nat):CoeDep Mm (Γo x a b c d e f g h) Value:=⟨θ #[ι x.kind,μ x.rep.snd,ω x.rep.src,ω x.rep.inf.sec,ω x.rep.inf.frac,ω x.rep.inf.stamp,ω x.rep.inf.pkts,ω x.rep.inf.octs,δ a x.rep.bl.length b,ι x.msg.kind,ω x.msg.snd,ω x.msg.med,δ c x.msg.asks.length d,δ e x.msg.lost.length f,υ x.oth.1,υ x.oth.2.1,δ g x.oth.2.2.1.length h]⟩
section
open _root_.Go.Proofs.Tryz
def Vf:qL (Int×Int):=λ_ cs a=>cs=[.int .u32 a.1,.int .u8 a.2]/\U32 a.1/\U8 a.2
theorem Cb:QQ Vf:=λ_ _ _ _ _ h=>h
theorem Au (q:Int):IntKind.i16.wrap q=(q+32768)%65536-32768:=by
 simp only[IntKind.wrap,IntKind.bits,IntKind.signed];simp;split<;>omega
theorem Ct (a b:Int):wrap64 (IntKind.i16.wrap (IntKind.u16.wrap (b-a)))=ahd a b:=by
 rw[Au,IntKind.wrap_u16];unfold ahd wrap64;omega
theorem Dl (a b:Int) (w:World) (G:U16 a) (d:U16 b):
  Calls prog 243 #[φ a,φ b] w λe w'=>e= .returned (ι (ahd a b))/\w=w':=by
 obtain⟨a0,J⟩:=G;obtain⟨H,I⟩:=d
 go_enter func243,ntmps243
 go_wp2;go_ret;refine⟨xV ?_,rfl⟩;exact Ct a b
theorem Yd (a b:Int) (w:World) (d:U16 a) (G:U16 b):
  Calls prog 215 #[φ a,φ b] w λe w'=>e= .returned (ι (ahd a b))/\w=w':=by
 go_enter func215,ntmps215
 go_wp2_with (go_at_call 243;(go_call Dl a b _ d G as e w1 ⟨rfl,rfl⟩))
 go_ret;exact⟨rfl,rfl⟩
theorem Dx (a b:Int) (w:World) (d:U16 a) (G:U16 b):
  Calls prog 268 #[φ a,φ b] w λe w'=>e= .returned (μ (decide (0<ahd a b)))/\w=w':=by
 go_enter func268,ntmps268
 go_wp2_with (go_at_call 215;(go_call Yd a b _ d G as e w1 ⟨rfl,rfl⟩))
 go_ret;exact⟨rfl,rfl⟩
theorem Xu (k:Int) (w:World):
  Calls prog 257 #[ι k] w λe w'=>e= .returned (.tuple #[υ (Zv k).1,υ (Zv k).2])/\w=w':=by
 by_cases h1:k=1
 ·subst h1
  go_enter func257,ntmps257
  go_wp2
  go_ret2
  exact⟨rfl,rfl⟩
 by_cases h2:k=2
 ·subst h2
  go_enter func257,ntmps257
  go_wp2
  go_ret2
  exact⟨rfl,rfl⟩
 have d:Zv k=(205,1):=by unfold Zv;rw[if_neg h1,if_neg h2]
 have G:=κ d;have H:(k==1)=false:=by simpa using h1
 have I:(k==2)=false:=by simpa using h2
 clear d h1 h2
 go_enter func257,ntmps257
 go_wp2
 go_ret2
 exact⟨by rw[G.o];rfl,rfl⟩
end
section
open _root_.Go.Proofs.Tryz
theorem Ci {l:List Int} {i:Nat} (h:i<l.length):l.getD i 0∈l:=by
 rw[List.getD_eq_getElem?_getD,List.getElem?_eq_getElem h];exact List.getElem_mem h
theorem Bw {w:World} {n base e size d:Nat} {cs:Array Value} (G:n=w.heap.size) (H:base<=n) (J:d<=1000000) (I:cs.size=d* size):(w.alloc (.cells cs e)).ownsRow base e size (δ (some ⟨n,0,none⟩) d d) d cs.toList:=by
 subst G;exact World.ownsRow_lit w cs d H (by unfold maxLen;omega) I
theorem Fw {m:Int} (h:U16 m) (k:Nat):bits .and .u16 (m/2 ^ k) 1=if tb m k then 1 else 0:=by
 obtain⟨G,I⟩:=h;obtain⟨d,rfl⟩:=Int.eq_ofNat_of_zero_le G;have H:d/2 ^ k<=d:=Nat.div_le_self _ _;have e:((d:Int)/2 ^ k)=((d/2 ^ k:Nat):Int):=by simp
 rw[e,show (1:Int)=((1:Nat):Int) from rfl,u16_and_nat (d/2 ^ k) 1 τ ζ];unfold tb;rw[Int.toNat_natCast,Nat.testBit_eq_decide_div_mod_eq,Nat.and_one_is_mod];rcases Nat.mod_two_eq_zero_or_one (d/2 ^ k) with h | h<;>simp[h]
def Qi (p:Int×Int) (j:Nat):List Int:=p.1::((List.range j).filter (tb p.2)).map λk:Nat=>(p.1+k+1)%65536
theorem Il (p:Int×Int):Qi p 0=[p.1]:=rfl
theorem Pe (p:Int×Int) (j:Nat):Qi p (j+1)=Qi p j++(if tb p.2 j then [(p.1+j+1)%65536] else []):=by
 unfold Qi;rw[List.range_succ,List.filter_append,List.map_append];by_cases h:tb p.2 j=true
 ·simp[h]
 ·simp[h]
theorem Bs (p:Int×Int) (j:Nat) (h:j<=16):(Qi p j).length<=17:=by
 unfold Qi;rw[List.length_cons,List.length_map];have:=List.length_filter_le (tb p.2) (List.range j);rw[List.length_range] at this;omega
theorem QJ (p:Int×Int) (w:World) (ah:U16 p.1) (aa:U16 p.2):
  Calls prog 269 #[θ #[φ p.1,φ p.2]] w λe w'=> ∃v,e= .returned v/\w'.ownsRow w.heap.size 38 1 v (prN p).length ((prN p).map (Value.int .u16))/\qa w w':=by
 obtain⟨q,m⟩:=p;simp only at ah aa;obtain⟨an,hi,ak,ai,af⟩:=info_parts (P:=prog) (e:=38) (z:= φ 0) (size:=1) (bytes:=2) ξ
 go_enter func269,ntmps269
 go_wp2
 go_loopw [3,8] (λv M wr=> ∃j:Nat,j<=16/\M= ι j/\wr.ownsRow (w.heap.size+1) 38 1 v (Qi (q,m) j).length ((Qi (q,m) j).map (Value.int .u16))/\qa (w.alloc (.cells #[φ q,φ m] 411)) wr) (λ_ M _=>16-(intOf M).toNat)
 case atStart=>
  refine⟨0,τ,rfl, ?_,qa.alloc _ _⟩;rw[Il];exact Bw (cs:= #[φ q]) η (Nat.le_refl _) ζ rfl
 case round=>
  obtain⟨j,ag,rfl,ab,G⟩:=hrel;have ao:=G.new 0 (v:= φ q) rfl;have aq:=G.new 1 (v:= φ m) rfl;have ae:=κ ((qa.alloc w (.cells #[φ q,φ m] 411)).trans G);have J:=κ G;have H:=κ ab;have au:=Bs (q,m) j ag;by_cases hlt:j<16
  ·have ap:(j:Int)<16:=by omega
   have d:=Fw aa j;have I:=κ (Pe (q,m) j);by_cases ht:tb m j=true
   ·rw[if_pos ht] at d;have aj:(bits .and .u16 (m/2 ^ j) 1==1)=true:=by rw[d];rfl
    obtain⟨n,O⟩:=ν ((q+j+1)%65536);have ar:IntKind.u16.wrap (IntKind.u16.wrap (q+(j:Int))+1)=n:=by rw[IntKind.wrap_u16,IntKind.wrap_u16];omega
    have N:Hid (Qi (q,m) (j+1)=Qi (q,m) j++[n]):=κ (by rw[I.o];simp only;rw[if_pos ht,O]);clear d ht O I G;generalize Qi (q,m) j=L at *;clear ab
    go_wp2_with (at_builtin;refine qU _ rfl (.tmp 17) (.tmp 24) 244 rfl (w.heap.size+1) 38 an (φ 0) 2 underlying244 hi ak ai af rfl _ .u16 L rfl (jE H.o (qa.alloc _ _)) _ [n] rfl (SlI.lit .u16 wr [n] 38 _ 1 _ rfl rfl rfl η) (by simp only[List.length_cons,List.length_nil];omega) ζ (Nat.le_trans η (J.o.al _).size) ?_;intro v5 w5 U Y _;have ad:=κ U;have am:=κ ((J.o.al (.cells #[φ n] 38)).grown Y (J.o.al (.cells #[φ n] 38)).size (λz ac=>by have:=jG H.o ac;simpa using this));clear U Y)
    go_roundw
    case rel=>exact⟨j+1,τ,by go_num,by rw[N.o];exact ad.o,am.o⟩
    case measure=>simp[intOf];omega
   ·rw[if_neg ht] at d;have aj:(bits .and .u16 (m/2 ^ j) 1==1)=false:=by rw[d];rfl
    have N:Hid (Qi (q,m) (j+1)=Qi (q,m) j):=κ (by rw[I.o];simp only;rw[if_neg ht,List.append_nil]);clear d ht I;go_wp2;go_roundw
    case rel=>exact⟨j+1,τ,by go_num,by rw[N.o];exact H.o,J.o⟩
    case measure=>simp[intOf];omega
  ·obtain rfl:j=16:=by omega
   go_wp2;go_ret;exact⟨_,rfl,kq H.o (Nat.le_succ _),ae.o⟩
end
theorem GG {w:World} {base e size n:Nat} {v:Value} {xs:List Value} (h:w.ownsRow base e size v n xs): ∃oa cap,v= δ oa n cap/\(n:Int)<=9223372036854775807:=by
 rcases h.2 with ⟨rfl,G⟩ | ⟨g,cap,cur,rfl,_,_,H,d,_⟩
 ·exact⟨none,0,by rw[G],τ⟩
 ·exact⟨_,cap,rfl,by unfold maxLen at d;omega⟩
theorem AY {w:World} {base e size n:Nat} {v:Value} {xs:List Value} (h:w.ownsRow base e size v n xs) (I:0<n): ∃g cap,v= δ (some ⟨g,0,none⟩) n cap/\base<=g/\g<w.heap.size/\(n:Int)<=9223372036854775807:=by
 rcases h.2 with ⟨rfl,J⟩ | ⟨g,cap,cur,rfl,G,d,M,H,_⟩
 ·omega
 ·exact⟨g,cap,rfl,G,lt_of_block d,by unfold maxLen at H;omega⟩
section
open _root_.Go.Proofs.Tryz
theorem Fc {n t:Int} {b:List Int} (h:t=206/\n=1):zy (n,t,b,())=1:=by unfold zy;rw[if_pos h]
theorem EZ {n t:Int} {b:List Int} (h:t=206/\n=4):zy (n,t,b,())=2:=by unfold zy;rw[if_neg (by simp only;omega),if_pos h]
theorem EY {n t:Int} {b:List Int} (h:t=205/\n=1):zy (n,t,b,())=3:=by unfold zy;rw[if_neg (by simp only;omega),if_neg (by simp only;omega),if_pos h]
theorem Fd {n t:Int} {b:List Int} (d: ¬(t=206/\n=1)) (H: ¬(t=206/\n=4)) (G: ¬(t=205/\n=1)):zy (n,t,b,())=0:=by unfold zy;rw[if_neg d,if_neg H,if_neg G]
theorem Ue (w:World):Calls prog 257 #[ι 1] w λe w'=>e= .returned (.tuple #[υ 206,υ 1])/\w=w':=Xu 1 w
theorem Ud (w:World):Calls prog 257 #[ι 2] w λe w'=>e= .returned (.tuple #[υ 206,υ 4])/\w=w':=Xu 2 w
theorem Uc (w:World):Calls prog 257 #[ι 3] w λe w'=>e= .returned (.tuple #[υ 205,υ 1])/\w=w':=Xu 3 w
theorem eqB {a b:Int} (h:a=b):(a==b)=true:=by simpa using h
theorem neB {a b:Int} (h: ¬a=b):(a==b)=false:=by simpa using h
theorem XN (n t:Int) (B:List Int) (I:Option Addr) (H:Nat) (w:World):
  Calls prog 261 #[θ #[υ n,υ t,δ I B.length H]] w λe w'=>e= .returned (ι (zy (n,t,B,())))/\qa w w':=by
 go_enter func261,ntmps261
 go_wp2
 go_loopw [9] (λac wr=> ∃j:Nat,j<=3/\ac= ι j/\(1<=j-> ¬(t=206/\n=1))/\(2<=j-> ¬(t=206/\n=4))/\(3<=j-> ¬(t=205/\n=1))/\qa ((w.alloc (.cells #[υ n,υ t,δ I B.length H] 254)).alloc (.cells #[ι 1,ι 2,ι 3] 3)) wr) (λac _=>3-(intOf ac).toNat)
 case atStart=>exact⟨0,τ,rfl,(λh=>by omega),(λh=>by omega),(λh=>by omega),qa.refl _⟩
 case round=>
  obtain⟨j,aj,rfl,af,ae,ad,G⟩:=hrel;have Y:=κ af;have ab:=κ ae;have ag:=κ ad;clear af ae ad;have aa:=κ (((qa.alloc w (.cells #[υ n,υ t,δ I B.length H] 254)).al (.cells #[ι 1,ι 2,ι 3] 3)).trans G);have ah:=β0 (qc G (qs (qj w (.cells #[υ n,υ t,δ I B.length H] 254)) (.cells #[ι 1,ι 2,ι 3] 3)));have ak:=β1 (qc G (qs (qj w (.cells #[υ n,υ t,δ I B.length H] 254)) (.cells #[ι 1,ι 2,ι 3] 3)));have an:=β0 (qc G (qC (w:=w.alloc (.cells #[υ n,υ t,δ I B.length H] 254)) (o:=(.cells #[ι 1,ι 2,ι 3] 3)) (n:=w.heap.size+1) η));have ai:=β1 (qc G (qC (w:=w.alloc (.cells #[υ n,υ t,δ I B.length H] 254)) (o:=(.cells #[ι 1,ι 2,ι 3] 3)) (n:=w.heap.size+1) η));have am:=β2 (qc G (qC (w:=w.alloc (.cells #[υ n,υ t,δ I B.length H] 254)) (o:=(.cells #[ι 1,ι 2,ι 3] 3)) (n:=w.heap.size+1) η));have N:=κ G;clear G;by_cases e0:j=0
  ·subst e0;by_cases ht:t=206
   ·have U:=eqB ht;by_cases hn:n=1
    ·have O:=eqB hn;have M:=κ (Fc (b:=B) ⟨ht,hn⟩);clear ht hn
     go_wp2_with (go_at_call 257;(go_call Ue _ as e J ⟨rfl,rfl⟩))
     go_ret;exact⟨by rw[M.o];rfl,aa.o⟩
    ·have O:=neB hn;have d:=κ hn;clear ht hn
     go_wp2_with (go_at_call 257;(go_call Ue _ as e J ⟨rfl,rfl⟩))
     go_roundw
     case rel=>exact⟨1,τ,by first | rfl | go_num,(λ_=>(λh=>d.o h.2)),(λh=>by omega),(λh=>by omega),N.o⟩
     case measure=>simp[intOf]
   ·have U:=neB ht;have d:=κ ht;clear ht
    go_wp2_with (go_at_call 257;(go_call Ue _ as e J ⟨rfl,rfl⟩))
    go_roundw
    case rel=>exact⟨1,τ,by first | rfl | go_num,(λ_=>(λh=>d.o h.1)),(λh=>by omega),(λh=>by omega),N.o⟩
    case measure=>simp[intOf]
  by_cases e1:j=1
  ·subst e1;clear e0;by_cases ht:t=206
   ·have U:=eqB ht;by_cases hn:n=4
    ·have O:=eqB hn;have M:=κ (EZ (b:=B) ⟨ht,hn⟩);clear ht hn
     go_wp2_with (go_at_call 257;(go_call Ud _ as e J ⟨rfl,rfl⟩))
     go_ret;exact⟨by rw[M.o];rfl,aa.o⟩
    ·have O:=neB hn;have d:=κ hn;clear ht hn
     go_wp2_with (go_at_call 257;(go_call Ud _ as e J ⟨rfl,rfl⟩))
     go_roundw
     case rel=>exact⟨2,τ,by first | rfl | go_num,(λ_=>Y.o τ),(λ_=>(λh=>d.o h.2)),(λh=>by omega),N.o⟩
     case measure=>simp[intOf]
   ·have U:=neB ht;have d:=κ ht;clear ht
    go_wp2_with (go_at_call 257;(go_call Ud _ as e J ⟨rfl,rfl⟩))
    go_roundw
    case rel=>exact⟨2,τ,by first | rfl | go_num,(λ_=>Y.o τ),(λ_=>(λh=>d.o h.1)),(λh=>by omega),N.o⟩
    case measure=>simp[intOf]
  by_cases e2:j=2
  ·subst e2;clear e0 e1;by_cases ht:t=205
   ·have U:=eqB ht;by_cases hn:n=1
    ·have O:=eqB hn;have M:=κ (EY (b:=B) ⟨ht,hn⟩);clear ht hn
     go_wp2_with (go_at_call 257;(go_call Uc _ as e J ⟨rfl,rfl⟩))
     go_ret;exact⟨by rw[M.o];rfl,aa.o⟩
    ·have O:=neB hn;have d:=κ hn;clear ht hn
     go_wp2_with (go_at_call 257;(go_call Uc _ as e J ⟨rfl,rfl⟩))
     go_roundw
     case rel=>exact⟨3,τ,by first | rfl | go_num,(λ_=>Y.o τ),(λ_=>ab.o τ),(λ_=>(λh=>d.o h.2)),N.o⟩
     case measure=>simp[intOf]
   ·have U:=neB ht;have d:=κ ht;clear ht
    go_wp2_with (go_at_call 257;(go_call Uc _ as e J ⟨rfl,rfl⟩))
    go_roundw
    case rel=>exact⟨3,τ,by first | rfl | go_num,(λ_=>Y.o τ),(λ_=>ab.o τ),(λ_=>(λh=>d.o h.1)),N.o⟩
    case measure=>simp[intOf]
  ·obtain rfl:j=3:=by omega
   have M:=κ (Fd (b:=B) (Y.o τ) (ab.o τ) (ag.o τ));clear e0 e1 e2;go_wp2;go_ret;exact⟨by rw[M.o];rfl,aa.o⟩
end
structure DG (w:World) (va vl:Value) (m:Msg):Prop where
 asks:SlP 2 Vf w va m.asks
 lost:SlI .u16 w vl m.lost
def jX (w:World) (v:Value):Prop:= ∀g,v.ownBlock=some g->w.heap.size<=g
theorem jX.nil (w:World):jX w (δ none 0 0):=λg h=>by cases h
theorem Hw (x:Int):(qy x 4).length=4:=qK x 4 ζ
theorem Gk (x:Int):(qy x 1).length=1:=qK x 1 ζ
theorem XC {S:Nat->Prop} {w w':World} {base e size n:Nat} {v:Value} {xs:List Value} (h:w.ownsRow base e size v n xs) (m:qg S w w') (G: ∀b,v.ownBlock=some b-> ¬S b):w'.ownsRow base e size v n xs:=by
 obtain⟨d,H⟩:=h;refine⟨d, ?_⟩;rcases H with h | ⟨g,cap,cur,e1,hb,hg,rest⟩
 ·exact Or.inl h
 ·exact Or.inr ⟨g,cap,cur,e1,hb,m.blk hg (G g (by rw[e1];rfl)),rest⟩
theorem WC {w:World} {b:Nat} {t:TypeId} {a0 G d:Value} (h:w.heap[b]? =some (.cells #[a0,G,d] t (0,0))) (v0 v1 v2:Value):(((w.setCell ⟨b,0,none⟩ v0).setCell ⟨b,1,none⟩ v1).setCell ⟨b,2,none⟩ v2).heap[b]? =some (.cells #[v0,v1,v2] t (0,0)):=
 qB (qp (qp (qp h 0 v0) 1 v1) 2 v2) rfl
theorem qa.st3 {w w':World} (h:qa w w') (b:Nat) (d:w.heap.size<=b) (v0 v1 v2:Value):qa w (((w'.setCell ⟨b,0,none⟩ v0).setCell ⟨b,1,none⟩ v1).setCell ⟨b,2,none⟩ v2):=
 ((h.st (p:=⟨b,0,none⟩) d v0).st (p:=⟨b,1,none⟩) d v1).st (p:=⟨b,2,none⟩) d v2
theorem Dj {w:World} {H:Option Addr} {n c:Nat} {l:List (Int×Int)} (h:SlP 2 Vf w (δ H n c) l) (i:Nat) (hi:i<l.length): ∃b d,H=some ⟨b,d,none⟩/\b<w.heap.size/\
  (∀x,qa w x->x.cell? ⟨b,d+i* 2,none⟩=some (ω (l.getD i (0,0)).1)/\x.cell? ⟨b,d+i* 2+1,none⟩=some (υ (l.getD i (0,0)).2))/\U32 (l.getD i (0,0)).1/\U8 (l.getD i (0,0)).2:=by
 obtain⟨U,Y,e,_,O,_⟩:=h;cases e;obtain⟨b,d,cs,e,G,aa,I,rfl,M,N⟩:=O i hi;have J:l.getD i (0,0)=l[i]:=by rw[List.getD_eq_getElem?_getD,List.getElem?_eq_getElem hi];rfl
 rw[J];refine⟨b,d,e,G,λx m=>⟨?_, ?_⟩,M,N⟩
 ·rw[m.cells b _ G];exact I 0 ζ
 ·rw[m.cells b _ G];exact I 1 ζ
section
open _root_.Go.Proofs.Tryz
structure AkJ (w0 w:World) (R:Nat) (C:Nat->Prop) (v:Value) (acc:List (Int×Int)) (s:RdS):Prop where
 rd:qu w R s.1 s.2 C
 row:je 2 Vf (λb=>b=R) w w0.heap.size 372 v acc
 away:qg (λb=>b=R) w0 w
 hC: ∀g,C g->g<w0.heap.size
 hR:R<w0.heap.size
section
variable {w0 w w':World} {R:Nat} {C:Nat->Prop} {v v':Value} {acc acc':List (Int×Int)} {s s':RdS}
theorem AkJ.read (h:AkJ w0 w R C v acc s) (r:qu w' R s'.1 s'.2 C) (a:qg (λb=>b=R) w w'):AkJ w0 w' R C v acc s':=⟨r,h.row.step a,h.away.trans a,h.hC,h.hR⟩
theorem AkJ.on (h:AkJ w0 w R C v acc s) (m:qa w w'):AkJ w0 w' R C v acc s:=⟨h.rd.more m,h.row.on m,h.away.more m,h.hC,h.hR⟩
theorem AkJ.put (h:AkJ w0 w R C v acc s) (M:je 2 Vf (λb=>b=R) w' w0.heap.size 372 v' acc') (d:w.grownBy w' v.ownBlock):AkJ w0 w' R C v' acc' s:=by
 have I: ∀g,v.ownBlock=some g->w0.heap.size<=g:=λg e=>h.row.ge e
 have G:=h.away.size;have a:qg (λb=>v.ownBlock=some b) w w':=⟨d.os,d.tape,d.output,d.size,λk H G=>d.block k H (λe=>G e.symm)⟩;refine⟨h.rd.off a (λe=>by have:=I R e;have:=h.hR;omega) (λg N e=>by have:=I g e;have:=h.hC g N;omega),M, ?_,h.hC,h.hR⟩
 exact⟨a.os.trans h.away.os,a.tape.trans h.away.tape,a.output.trans h.away.output,Nat.le_trans G a.size,λk H J=>by
  rw[a.block k (Nat.lt_of_lt_of_le H G) (λe=>by have:=I k e;omega)]
  exact h.away.block k H J⟩
end
theorem yg {n:Nat} {acc:List (Int×Int)} {s:RdS} (h: ¬s.1=[]):jm (n+1) acc s=jm n (acc++[(wu s).1]) (wu s).2:=by
 show (if s.1=[] then _ else _)=_;rw[if_neg h]
theorem Xo {s:RdS} (h: ¬s.1=[]):(wu s).2.1.length+1<=s.1.length:=by
 have d:=List.length_pos_iff.2 h;have e:(wu s).2.1=((s.1.drop 4).drop 1).drop 3:=rfl;rw[e,List.length_drop,List.length_drop,List.length_drop];omega
theorem VK {s:RdS} (h: ¬s.1=[]):(0:Int)<(s.1.length:Int):=by
 have:=List.length_pos_iff.2 h;omega
theorem Y7 {w:World} {R:Nat} {s0:RdS} {aa:Nat->Prop} (h:qu w R s0.1 s0.2 aa) (hR:R<w.heap.size):
  Calls prog 262 #[γ R] w λe w'=> ∃v',e= .returned v'/\AkJ w w' R (λg=>aa g/\g<w.heap.size) v' (jm s0.1.length [] s0).1 (jm s0.1.length [] s0).2:=by
 obtain⟨aM,hi,aJ,aB,az⟩:=info_parts (P:=prog) (e:=372) (z:= θ #[ω 0,υ 0]) (size:=2) (bytes:=8) ξ;obtain⟨C,M⟩: ∃C:Nat->Prop,C=λg=>aa g/\g<w.heap.size:=⟨_,rfl⟩
 have aw:Hid (AkJ w w R C (δ none 0 0) [] s0):=κ (by rw[M];exact⟨h.old,je.nil _ _ _ _ _ _,qg.refl _ _,λg h=>h.2,hR⟩);rw[<-M];have aQ:=h.small;clear M h
 go_enter func262,ntmps262
 go_wp2
 go_loopw [3] (λv wr=> ∃acc s n,AkJ w wr R C v acc s/\s.1.length<=n/\jm n acc s=jm s0.1.length [] s0/\acc.length+s.1.length<=s0.1.length) (λv _=>s0.1.length-QO v)
 case atStart=>exact⟨[],s0,s0.1.length,aw.o,Nat.le_refl _,rfl,η⟩
 case round=>
  obtain⟨acc,s,n,ab,aS,I,aV⟩:=hrel;have H:=κ ab;have ah:=κ I;obtain⟨aP,aU,aW,rfl,ap,ax⟩:=ab.row.shape;have aH:=κ ap;clear ab I ap ax;by_cases hs:s.1=[]
  ·have I:=ah.o;obtain⟨l,e⟩:=s;simp only at hs;subst hs;rw[zE] at I;have aL:=κ I;clear I
   go_wp2_with (go_at_call 59;(go_call zn H.o.rd as e w9 ⟨rfl,rfl⟩))
   go_ret;exact⟨_,rfl,by rw[<-aL.o];exact H.o⟩
  ·have aT:=VK hs;have ai:=Xo hs;have ad:=H.o.rd.byt;have ao:=κ (Gc ad);obtain⟨n,rfl⟩: ∃k,n=k+1:=⟨n-1,by have:=List.length_pos_iff.2 hs;omega⟩;have aD:Hid (jm n (acc++[(wu s).1]) (wu s).2=jm s0.1.length [] s0):=κ (by rw[<-yg hs];exact ah.o);have aq:=κ ai;obtain⟨d,Y⟩: ∃X,num (tkB s.1 4)=X:=⟨_,rfl⟩;obtain⟨G,N⟩: ∃X,num (tkB (tkS s 4).1 1)=X:=⟨_,rfl⟩;have aA:=κ Y;have av:=κ N;have O:Hid ((wu s).1=(d,G)):=κ (by rw[<-Y,<-N];rfl);clear ad hs ai Y N
   go_wp2_with (first | (go_at_call 59;(go_call zn H.o.rd as e w9 ⟨rfl,rfl⟩)) | (go_at_call 56;(go_call jD H.o.rd as e w2 ⟨rfl,al,ag⟩;rw[aA.o];have af:=κ (H.o.read (s':=tkS s 4) al ag);clear al ag)) | (go_at_call 54;(go_call jT af.o.rd as e ar ⟨rfl,U,a3⟩;rw[av.o];have aE:=κ ((af.o.read (s':=tkS (tkS s 4) 1) U a3).away.size);have ac:=κ ((af.o.read (s':=tkS (tkS s 4) 1) U a3).on (qa.alloc ar (.cells #[ω d,υ G] 372)));have au:=κ (qj ar (.cells #[ω d,υ G] 372));clear U a3)) | (go_at_call 267;(go_call Je ac.o.rd as e w4 ⟨rfl,aj,a4⟩;have aG:=κ (ac.o.read (s':=(wu s).2) aj a4);have am:=κ (a4.blk au.o (λe=>by have:=ac.o.hR;have:=aE.o;omega));clear aj a4;have ay:=β0 am.o;have aF:=β1 am.o;have J:=κ (aG.o.on (qa.alloc w4 (.cells #[ω d,υ G] 372))))) | (at_builtin;refine jN _ rfl (.tmp 15) (.tmp 17) 243 rfl w.heap.size 372 aM (θ #[ω 0,υ 0]) 2 8 underlying243 hi aJ aB az rfl ζ _ acc rfl J.o.row w4.heap.size [ω d,υ G] (d,G) rfl rfl (zS rfl) (by simp[Value.oneCell']) (λ_ _=>⟨rfl,by have:=ao.o.1;rw[O.o] at this;exact this,by have:=ao.o.2.1;rw[O.o] at this;exact this⟩) (λb ad=>by have:=J.o.hR;have:=J.o.away.size;omega) ζ τ J.o.away.size ?_;intro v6 w6 ae an _;have aC:=κ (J.o.put ae an);obtain⟨aN,aR,aO,rfl,ak,aK⟩:=ae.shape;have aI:=κ ak;clear ae an ak aK ay aF))
   go_roundw
   case rel=>exact⟨acc++[(d,G)],(wu s).2,n,aC.o,by have:=aq.o;omega,by have:=aD.o;rw[O.o] at this;exact this,by have:=aq.o;simp only[List.length_append,List.length_cons,List.length_nil];omega⟩
   case measure=>have:=aI.o;have:=aH.o;simp[QO] at *;omega
end
section
open _root_.Go.Proofs.Tryz
structure LoJ (w0 w:World) (R:Nat) (C:Nat->Prop) (v:Value) (acc:List Int) (s:RdS):Prop where
 rd:qu w R s.1 s.2 C
 row:w.ownsRow w0.heap.size 38 1 v acc.length (acc.map (Value.int .u16))
 away:qg (λb=>b=R) w0 w
 hC: ∀g,C g->g<w0.heap.size
 hR:R<w0.heap.size
section
variable {w0 w w':World} {R:Nat} {C:Nat->Prop} {v v':Value} {acc acc':List Int} {s s':RdS}
theorem LoJ.read (h:LoJ w0 w R C v acc s) (r:qu w' R s'.1 s'.2 C) (a:qg (λb=>b=R) w w'):LoJ w0 w' R C v acc s':=⟨r,XC h.row a (λb d e=>by have:=jG h.row d;have:=h.hR;omega),h.away.trans a,h.hC,h.hR⟩
theorem LoJ.on (h:LoJ w0 w R C v acc s) (m:qa w w'):LoJ w0 w' R C v acc s:=⟨h.rd.more m,jE h.row m,h.away.more m,h.hC,h.hR⟩
theorem LoJ.put (h:LoJ w0 w R C v acc s) (M:w'.ownsRow w0.heap.size 38 1 v' acc'.length (acc'.map (Value.int .u16))) (d:w.grownBy w' v.ownBlock):LoJ w0 w' R C v' acc' s:=by
 have I: ∀g,v.ownBlock=some g->w0.heap.size<=g:=λg e=>jG h.row e
 have G:=h.away.size;have a:qg (λb=>v.ownBlock=some b) w w':=⟨d.os,d.tape,d.output,d.size,λk H G=>d.block k H (λe=>G e.symm)⟩;refine⟨h.rd.off a (λe=>by have:=I R e;have:=h.hR;omega) (λg N e=>by have:=I g e;have:=h.hC g N;omega),M, ?_,h.hC,h.hR⟩
 exact⟨a.os.trans h.away.os,a.tape.trans h.away.tape,a.output.trans h.away.output,Nat.le_trans G a.size,λk H J=>by
  rw[a.block k (Nat.lt_of_lt_of_le H G) (λe=>by have:=I k e;omega)]
  exact h.away.block k H J⟩
end
theorem uJ {n:Nat} {acc:List Int} {s:RdS} (h: ¬s.1=[]):jc (n+1) acc s=jc n (acc++prN (prS s).1) (gm acc (prS s).1 (prS s).2):=by
 show (if s.1=[] then _ else _)=_;rw[if_neg h]
theorem VD (acc:List Int) (p:Int×Int) (s:RdS):(gm acc p s).1.length<=s.1.length:=by
 unfold gm;split
 ·exact vH s 2
 ·exact Nat.le_refl _
theorem WK {s:RdS} (h: ¬s.1=[]):(prS s).2.1.length+1<=s.1.length:=by
 have d:=List.length_pos_iff.2 h;have e:(prS s).2.1=(s.1.drop 2).drop 2:=rfl;rw[e,List.length_drop,List.length_drop];omega
theorem yd {w:World} {R:Nat} {l:List Int} {e:Int} {C:Nat->Prop} (h:qu w R l e C):
  Calls prog 59 #[γ R] w λd w'=>d= .returned (ι l.length)/\w=w':=(zn h).mono λ_ _ ⟨a,b⟩=>⟨a,b.symm⟩
theorem Xx {w:World} {base e g k c:Nat} {acc:List Int} (h:w.ownsRow base e 1 (δ (some ⟨g,0,none⟩) (k+1) c) acc.length (acc.map (Value.int .u16))) (d:acc.length=k+1):w.cell? ⟨g,k,none⟩=some (φ (acc.getD k 0)):=by
 rw[d] at h;rw[h.cellAt k τ,List.getElem?_map,List.getD_eq_getElem?_getD,List.getElem?_eq_getElem τ];rfl
theorem Bq (p:Int×Int):1<=(prN p).length/\(prN p).length<=17:=WM p
theorem Y6 {w:World} {R:Nat} {s0:RdS} {aT:Nat->Prop} (h:qu w R s0.1 s0.2 aT) (hR:R<w.heap.size):
  Calls prog 263 #[γ R] w λe w'=> ∃v',e= .returned v'/\LoJ w w' R (λg=>aT g/\g<w.heap.size) v' (jc s0.1.length [] (xK s0)).1 (jc s0.1.length [] (xK s0)).2:=by
 obtain⟨aU,hi,bc,bb,aM⟩:=info_parts (P:=prog) (e:=38) (z:= φ 0) (size:=1) (bytes:=2) ξ;obtain⟨C,aJ⟩: ∃C:Nat->Prop,C=λg=>aT g/\g<w.heap.size:=⟨_,rfl⟩
 have bx:qu w R s0.1 s0.2 C:=by rw[aJ];exact h.old
 have bp:Hid (∀g,C g->g<w.heap.size):=κ (by rw[aJ];exact λg h=>h.2);rw[<-aJ];have bS:=h.small;have aN:=κ bx;clear aJ h bx;have bw:=κ (λw' (r:qu w' R s0.1 s0.2 C)=>zo (s:=s0) r 2)
 go_enter func263,ntmps263
 go_upto_if 7 with (go_at_call 59;(go_call yd aN.o as e w9 ⟨rfl,rfl⟩))
 go_cut [] from 7 to 9 (λbG=>LoJ w bG R C (δ none 0 0) [] (xK s0))
 case first=>
  by_cases hs:s0.1.length=0
  ·have bz:((s0.1.length:Int)==0)=true:=eqB τ;have am:xK s0=wrS s0 2:=by unfold xK;rw[if_pos hs]
   have aO:=κ am;clear am hs
   go_wp2_with (first | (go_at_call 57;(go_call bw.o _ aN.o as e I ⟨rfl,J,a3⟩;have N:Hid (LoJ w I R C (δ none 0 0) [] (xK s0)):=κ (by rw[aO.o];exact⟨J,World.ownsRow_nil _ _ _ _,a3,bp.o,hR⟩);clear J a3)))
   go_meet;exact N.o
  ·have bz:((s0.1.length:Int)==0)=false:=neB τ;have am:xK s0=s0:=by unfold xK;rw[if_neg hs]
   have aO:=κ am;clear am hs;go_wp2;go_meet;rw[aO.o];exact⟨aN.o,World.ownsRow_nil _ _ _ _,qg.refl _ _,bp.o,hR⟩
 case rest=>
 have bI:=κ hcut;clear hcut bw;have am:(xK s0).1.length<=s0.1.length:=by
  unfold xK;split
  ·exact vH _ _
  ·exact Nat.le_refl _
 go_wp2_with fail
 go_loopw [3] (λv wr=> ∃acc s n,LoJ w wr R C v acc s/\s.1.length<=n/\jc n acc s=jc s0.1.length [] (xK s0)/\acc.length+17* s.1.length<=17* s0.1.length/\(∀x∈acc,U16 x)) (λv _=>17* s0.1.length-QO v)
 case atStart=>exact⟨[],xK s0,s0.1.length,bI.o,am,rfl,by simp;omega,λx an=>by cases an⟩
 case round=>
  obtain⟨acc,s,n,aV,bN,aq,bO,bq⟩:=hrel;have aK:=κ bq;clear bq;have M:=κ aV;have bf:=κ aq;obtain⟨bJ,bF,bM,rfl,az,bB⟩:=qT aV.row;have bE:=κ az;clear aV aq bB;by_cases hs:s.1=[]
  ·have aq:=bf.o;obtain⟨l,e⟩:=s;simp only at hs;subst hs;rw[wE] at aq;have bH:=κ aq;clear aq az
   go_wp2_with (go_at_call 59;(go_call yd M.o.rd as e w9 ⟨rfl,rfl⟩))
   go_ret;exact⟨_,rfl,by rw[<-bH.o];exact M.o⟩
  ·have bz:=VK hs;have aE:=WK hs;have bm:=M.o.rd.byt;obtain⟨aR,aQ,-⟩:=DZ bm;obtain⟨n,rfl⟩: ∃k,n=k+1:=⟨n-1,by have:=List.length_pos_iff.2 hs;omega⟩;have aI:Hid (jc n (acc++prN (prS s).1) (gm acc (prS s).1 (prS s).2)=jc s0.1.length [] (xK s0)):=κ (by rw[<-uJ hs];exact bf.o);have bd:=κ aE;have aG:=VD acc (prS s).1 (prS s).2;obtain⟨d,aP⟩: ∃X,num (tkB s.1 2)=X:=⟨_,rfl⟩;obtain⟨G,ba⟩: ∃X,num (tkB (tkS s 2).1 2)=X:=⟨_,rfl⟩;have aX:=κ aP;have aL:=κ ba;have bg:(prS s).1=(d,G):=by rw[<-aP,<-ba];rfl
   rw[bg] at aI aG aR aQ;have al:=κ aR;have aZ:=κ aQ;have O:=κ (Bq (d,G));clear bm hs aP ba bg aR aQ;have bC:=κ (λw' (r:qu w' R (prS s).2.1 (prS s).2.2 C)=>zo (s:=(prS s).2) r 2);by_cases ha:acc=[]
   ·subst ha;have e:gm [] (d,G) (prS s).2=(prS s).2:=by unfold gm;rw[if_neg (λh=>h.1 rfl)]
    have av:Hid (jc n ([]++prN (d,G)) (prS s).2=jc s0.1.length [] (xK s0)):=κ (by rw[<-e];exact aI.o);have ae:Hid ((prS s).2.1.length+1<=s.1.length):=bd;obtain rfl:bF=0:=az;clear e aG aE
    go_wp2_with (first | (go_at_call 59;(go_call yd M.o.rd as e w9 ⟨rfl,rfl⟩)) | (go_at_call 55;((with_reducible refine(xn M.o.rd).mono ?_);rintro e w2 ⟨rfl,ag,ah⟩;rw[aX.o];have ab:=κ (M.o.read (s':=tkS s 2) ag ah);clear ag ah)) | (go_at_call 55;((with_reducible refine(xn ab.o.rd).mono ?_);rintro e I ⟨rfl,J,a3⟩;rw[aL.o];have N:=κ ((ab.o.read (s':=(prS s).2) J a3).on (qa.alloc I (.cells #[φ d,φ G] 411)));have aS:=κ ((ab.o.read (s':=(prS s).2) J a3).away.size);have ac:=κ (qj I (.cells #[φ d,φ G] 411));clear J a3)))
    generalize ay:I.alloc (.cells #[φ d,φ G] 411)=x3 at *;clear ay;generalize I.heap.size=P3 at *;have ad:=λ(x:qt x3)=>β0 (qc x.h ac.o)
    refine qD x3 (qa.refl _) ξ ξ ?_
    repeat (go_big_quiet_step (fail))
    refine wpQuiet_nil ?_;intro _ ax;obtain⟨H,rfl⟩:=ax;have ak:=κ (N.o.on H.h);have aF:=ad H;have aD:H.w'.cell? ⟨P3,1,none⟩=some (φ G):=qb (qc H.h ac.o) 1 rfl;clear ad N
    go_wp2_with (first | (go_at_call 269;(go_call QJ (d,G) _ al.o aZ.o as e w6 ⟨v6,rfl,U,af⟩;have Y:=κ (ak.o.on af);have S6:=κ (SlI.of_owns U (by have:=O.o.2;omega));obtain⟨bh,bi,bA,rfl,aA,-⟩:=qT U;clear U af aA)) | (at_builtin;refine qU _ rfl (.tmp 35) (.tmp 37) 244 rfl w.heap.size 38 aU (φ 0) 2 underlying244 hi bc bb aM rfl _ .u16 [] rfl Y.o.row _ (prN (d,G)) rfl S6.o (by have:=O.o.2;simp only[List.length_nil] at *;omega) ζ Y.o.away.size ?_;intro v7 bj aa ai _;have au:=κ (Y.o.put aa ai);obtain⟨bo,bv,bt,rfl,aj,-⟩:=qT aa;have aB:=κ aj;clear aa ai aj))
    go_roundw
    case rel=>exact⟨[]++prN (d,G),(prS s).2,n,au.o,by have:=ae.o;omega,av.o,by have:=ae.o;have:=O.o.2;rw[List.length_append];simp only[List.length_nil] at *;omega,λx an=>(List.mem_append.1 an).elim (aK.o x) (Jw al.o x)⟩
    case measure=>have:=aB.o;have:=bE.o;have:=O.o.1;simp[QO,List.length_append] at *;omega
   ·obtain⟨k,ap⟩: ∃k,acc.length=k+1:=⟨acc.length-1,by have:=List.length_pos_iff.2 ha;omega⟩;have ar:=Kn ha;rw[ap,Nat.add_sub_cancel] at ar;have aC:=aK.o _ (Ci (l:=acc) (i:=k) τ);have ao:=κ ap;rw[ap] at az;subst az;obtain⟨g,bK,br,bL,bQ,-⟩:=AY M.o.row τ;rw[ap] at br;cases br;obtain⟨y,aH⟩:=ν (acc.getD k 0);rw[aH] at aC ar;have bk:=κ aH;have bu:=κ (λw=>Dx y d w aC al.o);have bR:(0:Int)<(k:Int)+1:=by omega
    have bP:(k:Int)<=9223372036854775807:=by omega
    by_cases hd:0<ahd y d
    ·have e:gm acc (d,G) (prS s).2=(prS s).2:=by unfold gm;rw[if_neg (λh=>h.2 (by rw[ar];exact hd))]
     have av:Hid (jc n (acc++prN (d,G)) (prS s).2=jc s0.1.length [] (xK s0)):=κ (by rw[<-e];exact aI.o);have ae:Hid ((prS s).2.1.length+1<=s.1.length):=bd;have bD:decide (0<ahd y d)=true:=decide_eq_true hd;clear e aG aE hd ha ap ar aC aH
     go_wp2_with (first | (go_at_call 59;(go_call yd M.o.rd as e w9 ⟨rfl,rfl⟩)) | (go_at_call 55;((with_reducible refine(xn M.o.rd).mono ?_);rintro e w2 ⟨rfl,ag,ah⟩;rw[aX.o];have ab:=κ (M.o.read (s':=tkS s 2) ag ah);clear ag ah)) | (go_at_call 55;((with_reducible refine(xn ab.o.rd).mono ?_);rintro e I ⟨rfl,J,a3⟩;rw[aL.o];have N:=κ ((ab.o.read (s':=(prS s).2) J a3).on (qa.alloc I (.cells #[φ d,φ G] 411)));have aS:=κ ((ab.o.read (s':=(prS s).2) J a3).away.size);have ac:=κ (qj I (.cells #[φ d,φ G] 411));clear J a3)))
     generalize ay:I.alloc (.cells #[φ d,φ G] 411)=x3 at *;clear ay
     have aw:Hid (∀x:qt x3,x.w'.cell? ⟨g,k,none⟩=some (φ y)):=κ (λx=>by
      have aW:=Xx (jE N.o.row x.h) ao.o
      rw[aW,bk.o])
     have aY:=aw.o;generalize I.heap.size=P3 at *;have ad:=λ(x:qt x3)=>β0 (qc x.h ac.o)
     refine qD x3 (qa.refl _) ξ ξ ?_
     repeat (go_big_quiet_step ((go_at_call 268;with_reducible exact kB ((bu.o _).mono λ_ _ ⟨e,h⟩=>⟨e,h.symm⟩))))
     refine wpQuiet_nil ?_;intro _ ax;obtain⟨H,rfl⟩:=ax;have ak:=κ (N.o.on H.h);have aF:=ad H;have aD:H.w'.cell? ⟨P3,1,none⟩=some (φ G):=qb (qc H.h ac.o) 1 rfl;have bl:=κ (qc H.h ac.o);clear ad N aY aw;have be:=ak
     go_wp2_with (first | (go_at_call 269;(go_call QJ (d,G) _ al.o aZ.o as e w6 ⟨v6,rfl,U,af⟩;have Y:=κ (be.o.on af);have S6:=κ (SlI.of_owns U (by have:=O.o.2;omega));obtain⟨bh,bi,bA,rfl,aA,-⟩:=qT U;clear U af aA)) | (at_builtin;refine qU _ rfl (.tmp 35) (.tmp 37) 244 rfl w.heap.size 38 aU (φ 0) 2 underlying244 hi bc bb aM rfl _ .u16 acc rfl Y.o.row _ (prN (d,G)) rfl S6.o (by have:=O.o.2;have:=ao.o;omega) ζ Y.o.away.size ?_;intro v7 bj aa ai _;have au:=κ (Y.o.put aa ai);obtain⟨bo,bv,bt,rfl,aj,-⟩:=qT aa;have aB:=κ aj;clear aa ai aj))
     go_roundw
     case rel=>exact⟨acc++prN (d,G),(prS s).2,n,au.o,by have:=ae.o;omega,av.o,by have:=ae.o;have:=O.o.2;rw[List.length_append];omega,λx an=>(List.mem_append.1 an).elim (aK.o x) (Jw al.o x)⟩
     case measure=>have:=aB.o;have:=ao.o;have:=O.o.1;simp[QO,List.length_append] at *;omega
    ·have e:gm acc (d,G) (prS s).2=wrS (prS s).2 2:=by unfold gm;rw[if_pos ⟨ha,by rw[ar];exact hd⟩]
     have av:Hid (jc n (acc++prN (d,G)) (wrS (prS s).2 2)=jc s0.1.length [] (xK s0)):=κ (by rw[<-e];exact aI.o);have ae:Hid ((wrS (prS s).2 2).1.length+1<=s.1.length):=κ (by have:=bd.o;have:=vH (prS s).2 2;omega);have bD:decide (0<ahd y d)=false:=decide_eq_false hd;clear e aG aE hd ha ap ar aC aH
     go_wp2_with (first | (go_at_call 59;(go_call yd M.o.rd as e w9 ⟨rfl,rfl⟩)) | (go_at_call 55;((with_reducible refine(xn M.o.rd).mono ?_);rintro e w2 ⟨rfl,ag,ah⟩;rw[aX.o];have ab:=κ (M.o.read (s':=tkS s 2) ag ah);clear ag ah)) | (go_at_call 55;((with_reducible refine(xn ab.o.rd).mono ?_);rintro e I ⟨rfl,J,a3⟩;rw[aL.o];have N:=κ ((ab.o.read (s':=(prS s).2) J a3).on (qa.alloc I (.cells #[φ d,φ G] 411)));have aS:=κ ((ab.o.read (s':=(prS s).2) J a3).away.size);have ac:=κ (qj I (.cells #[φ d,φ G] 411));clear J a3)))
     generalize ay:I.alloc (.cells #[φ d,φ G] 411)=x3 at *;clear ay
     have aw:Hid (∀x:qt x3,x.w'.cell? ⟨g,k,none⟩=some (φ y)):=κ (λx=>by
      have aW:=Xx (jE N.o.row x.h) ao.o
      rw[aW,bk.o])
     have aY:=aw.o;generalize I.heap.size=P3 at *;have ad:=λ(x:qt x3)=>β0 (qc x.h ac.o)
     refine qD x3 (qa.refl _) ξ ξ ?_
     repeat (go_big_quiet_step ((go_at_call 268;with_reducible exact kB ((bu.o _).mono λ_ _ ⟨e,h⟩=>⟨e,h.symm⟩))))
     refine wpQuiet_nil ?_;intro _ ax;obtain⟨H,rfl⟩:=ax;have ak:=κ (N.o.on H.h);have aF:=ad H;have aD:H.w'.cell? ⟨P3,1,none⟩=some (φ G):=qb (qc H.h ac.o) 1 rfl;have bl:=κ (qc H.h ac.o);clear ad N aY aw
     go_wp2_with (first | (go_at_call 57;(go_call bC.o _ ak.o.rd as e w5 ⟨rfl,bs,a5⟩;have be:=κ (ak.o.read (s':=wrS (prS s).2 2) bs a5);have bn:=κ (a5.blk bl.o (λe=>by have:=ak.o.hR;have:=aS.o;omega));clear bs a5 aF aD;have aF:=β0 bn.o;have aD:=β1 bn.o)) | (go_at_call 269;(go_call QJ (d,G) _ al.o aZ.o as e w6 ⟨v6,rfl,U,af⟩;have Y:=κ (be.o.on af);have S6:=κ (SlI.of_owns U (by have:=O.o.2;omega));obtain⟨bh,bi,bA,rfl,aA,-⟩:=qT U;clear U af aA)) | (at_builtin;refine qU _ rfl (.tmp 35) (.tmp 37) 244 rfl w.heap.size 38 aU (φ 0) 2 underlying244 hi bc bb aM rfl _ .u16 acc rfl Y.o.row _ (prN (d,G)) rfl S6.o (by have:=O.o.2;have:=ao.o;omega) ζ Y.o.away.size ?_;intro v7 bj aa ai _;have au:=κ (Y.o.put aa ai);obtain⟨bo,bv,bt,rfl,aj,-⟩:=qT aa;have aB:=κ aj;clear aa ai aj))
     go_roundw
     case rel=>exact⟨acc++prN (d,G),(wrS (prS s).2 2),n,au.o,by have:=ae.o;omega,av.o,by have:=ae.o;have:=O.o.2;rw[List.length_append];omega,λx an=>(List.mem_append.1 an).elim (aK.o x) (Jw al.o x)⟩
     case measure=>have:=aB.o;have:=ao.o;have:=O.o.1;simp[QO,List.length_append] at *;omega
end
theorem Ma {w:World} {base e:Nat} {v:Value} {xs:List Value} {n:Nat} (h:w.ownsRow base e 1 v n xs):(n:Int)<=9223372036854775807:=by
 rcases h.2 with ⟨_,H⟩ | ⟨g,cap,cur,_,_,_,G,d,_⟩
 ·omega
 ·unfold maxLen at d;omega
section
open _root_.Go.Proofs.Tryz
structure RdB (w0 w:World) (R:Nat) (l:List Int) (e:Int) (C:Nat->Prop) (B1 B2:Nat) (z cs:Array Value) (T:Nat):Prop where
 rd:qu w R l e (λg=>C g/\g<w0.heap.size)
 away:qg (λb=>b=R) w0 w
 b1:w.heap[B1]? =some (.cells z T (0,0))
 b2:w.heap[B2]? =some (.cells cs T (0,0))
 n1:w0.heap.size<=B1
 n2:B1<B2
 hR:R<w0.heap.size
theorem RdB.new {w:World} {R:Nat} {l:List Int} {e:Int} {C:Nat->Prop} (z:Array Value) (T:Nat) (h:qu w R l e C):RdB w ((w.alloc (.cells z T)).alloc (.cells z T)) R l e C w.heap.size (w.heap.size+1) z z T:=
 ⟨(h.old.more (qa.alloc _ _)).more (qa.alloc _ _),qg.of_more ((qa.alloc _ _).al _),qs (qj w _) _,qC η,Nat.le_refl _,Nat.lt_succ_self _,by obtain⟨v,d,_⟩:=h.blk;exact qn d⟩
theorem RdB.step {d w w':World} {R:Nat} {l l':List Int} {e H:Int} {C:Nat->Prop} {I G:Nat} {z cs:Array Value} {T:Nat} (h:RdB d w R l e C I G z cs T) (r:qu w' R l' H (λg=>C g/\g<d.heap.size)) (a:qg (λb=>b=R) w w'):RdB d w' R l' H C I G z cs T:=
 ⟨r,h.away.trans a,a.blk h.b1 (by have:=h.n1;have:=h.hR;omega),a.blk h.b2 (by have:=h.n1;have:=h.n2;have:=h.hR;omega),h.n1,h.n2,h.hR⟩
theorem VX {d w:World} {R B:Nat} (h:qg (λb=>b=R) d w) (I:d.heap.size<=B) (o:Nat) (v:Value):qg (λb=>b=R) d (w.setCell ⟨B,o,none⟩ v):=by
 have a:qg (λb=>b=B) w (w.setCell ⟨B,o,none⟩ v):=(qg.refl (λb=>b=B) w).set (p:=⟨B,o,none⟩) rfl v;exact⟨a.os.trans h.os,a.tape.trans h.tape,a.output.trans h.output,Nat.le_trans h.size a.size,λk G H=>by rw[a.block k (Nat.lt_of_lt_of_le G h.size) τ];exact h.block k G H⟩
theorem RdB.store {G w:World} {R:Nat} {l:List Int} {e:Int} {C:Nat->Prop} {H d:Nat} {z cs:Array Value} {T:Nat} (h:RdB G w R l e C H d z cs T) (i:Nat) (v:Value):RdB G (w.setCell ⟨d,i,none⟩ v) R l e C H d z (cs.setIfInBounds i v) T:=by
 have N:=h.n1;have M:=h.n2;have I:=h.hR;have a:qg (λb=>b=d) w (w.setCell ⟨d,i,none⟩ v):=(qg.refl (λb=>b=d) w).set (p:=⟨d,i,none⟩) rfl v;exact⟨h.rd.off a τ (λg J e=>by omega),VX h.away τ i v,a.blk h.b1 τ,qp h.b2 i v,h.n1,h.n2,h.hR⟩
theorem RdB.fill {H w:World} {R:Nat} {l:List Int} {e:Int} {C:Nat->Prop} {d G:Nat} {z cs:Array Value} {T:Nat} (h:RdB H w R l e C d G z cs T) (i:Nat) (v:Value):RdB H (w.setCell ⟨d,i,none⟩ v) R l e C d G (z.setIfInBounds i v) cs T:=by
 have N:=h.n1;have M:=h.n2;have I:=h.hR;have a:qg (λb=>b=d) w (w.setCell ⟨d,i,none⟩ v):=(qg.refl (λb=>b=d) w).set (p:=⟨d,i,none⟩) rfl v;exact⟨h.rd.off a τ (λg J e=>by omega),VX h.away τ i v,qp h.b1 i v,a.blk h.b2 τ,h.n1,h.n2,h.hR⟩
theorem kp {s:RdS} (h:Byt s.1):U32 (xP s):=by
 have:=zv (tkB s.1 4) 4 (jL h 4) (zh s.1 4 ζ) ζ;unfold xP;exact⟨this.1,τ⟩
theorem At (q:Int):IntKind.i32.wrap q=(q+2147483648)%4294967296-2147483648:=by
 unfold IntKind.wrap;simp[IntKind.bits,IntKind.signed]
 try omega
theorem Kx {w:World} {R:Nat} {s:RdS} {C:Nat->Prop} (h:qu w R s.1 s.2 C):
  Calls prog 259 #[γ R] w λe w'=>e= .returned (θ #[ω (jA s).1.sec,ω (jA s).1.frac,ω (jA s).1.stamp,ω (jA s).1.pkts,ω (jA s).1.octs])/\qu w' R (jA s).2.1 (jA s).2.2 C/\qg (λb=>b=R) w w':=by
 obtain⟨L,E⟩:=s;simp only at h;have aa:=RdB.new #[ω 0,ω 0,ω 0,ω 0,ω 0] 249 h;have M:=h.byt;have ac:jA (L,E)=(⟨num (tkB L 4),num (tkB (tkL L 4) 4),num (tkB (tkL (tkL L 4) 4) 4),num (tkB (tkL (tkL (tkL L 4) 4) 4) 4),num (tkB (tkL (tkL (tkL (tkL L 4) 4) 4) 4) 4)⟩,((tkL (tkL (tkL (tkL (tkL L 4) 4) 4) 4) 4),(tkE (tkL (tkL (tkL (tkL L 4) 4) 4) 4) 4 (tkE (tkL (tkL (tkL L 4) 4) 4) 4 (tkE (tkL (tkL L 4) 4) 4 (tkE (tkL L 4) 4 (tkE L 4 E))))))):=rfl;have Y:=κ ac;clear ac;have ad:Byt (tkL L 4):=M.drop _;generalize aH:num (tkB L 4)=n0 at *;generalize aq:tkE L 4 E=E1 at *;generalize ak:tkL L 4=L1 at *;have U:Byt (tkL L1 4):=ad.drop _;generalize aE:num (tkB L1 4)=n1 at *;generalize ar:tkE L1 4 E1=E2 at *;generalize ai:tkL L1 4=L2 at *;have ae:Byt (tkL L2 4):=U.drop _;generalize aK:num (tkB L2 4)=n2 at *;generalize aI:tkE L2 4 E2=E3 at *;generalize aC:tkL L2 4=L3 at *;have az:Byt (tkL L3 4):=ae.drop _;generalize aJ:num (tkB L3 4)=n3 at *;generalize am:tkE L3 4 E3=E4 at *;generalize ap:tkL L3 4=L4 at *;generalize aj:num (tkB L4 4)=n4 at *;generalize av:tkE L4 4 E4=E5 at *;generalize aF:tkL L4 4=L5 at *;clear M ad U ae az
 go_enter func259,ntmps259
 go_wp2_with first | (go_at_call 56;((with_reducible refine(jD aa.rd).mono ?_);rintro e w10 ⟨rfl,ay,a0⟩;have G:=aa.step ay a0;rw[ak,aq] at G;rw[aH];have ab:=G.store 0 (ω n0);have aY:=β0 G.b2;have aN:=qd G.b2 0)) | (go_at_call 56;((with_reducible refine(jD ab.rd).mono ?_);rintro e bb ⟨rfl,ah,aD⟩;have H:=ab.step ah aD;rw[ai,ar] at H;rw[aE];have O:=H.store 1 (ω n1);have c1:=β1 H.b2;have aT:=qd H.b2 1)) | (go_at_call 56;((with_reducible refine(jD O.rd).mono ?_);rintro e aM ⟨rfl,ax,ag⟩;have I:=O.step ax ag;rw[aC,aI] at I;rw[aK];have af:=I.store 2 (ω n2);have c2:=β2 I.b2;have aR:=qd I.b2 2)) | (go_at_call 56;((with_reducible refine(jD af.rd).mono ?_);rintro e aV ⟨rfl,au,a3⟩;have J:=af.step au a3;rw[ap,am] at J;rw[aJ];have N:=J.store 3 (ω n3);have c3:=β3 J.b2;have aZ:=qd J.b2 3)) | (go_at_call 56;((with_reducible refine(jD N.rd).mono ?_);rintro e aU ⟨rfl,an,a4⟩;have d:=N.step an a4;rw[aF,av] at d;rw[aj];have aG:=d.store 4 (ω n4);have aP:=β4 d.b2;have aL:=qd d.b2 4;have aW:=β0 d.b2;have aO:=β1 d.b2;have aX:=β2 d.b2;have ba:=β3 d.b2;have aA:=β0 d.b1;have z0:=qd d.b1 0;have aw:=β1 d.b1;have aS:=qd d.b1 1;have ao:=β2 d.b1;have aQ:=qd d.b1 2;have aB:=β3 d.b1;have z3:=qd d.b1 3;have al:=β4 d.b1;have z4:=qd d.b1 4))
 (refine bodyPost_ret (v:= θ #[ω n0,ω n1,ω n2,ω n3,ω n4]) ?rr1 rfl ?_;(case rr1=>(simp[results,results259,go_sem,aA,aw,ao,aB,al])))
 have Z:=(((((aG.fill 0 (ω n0)).fill 1 (ω n1)).fill 2 (ω n2)).fill 3 (ω n3)).fill 4 (ω n4));exact⟨by rw[Y.o],by rw[Y.o];exact Z.rd.mono λg h=>h.1,Z.away⟩
theorem Kz {w:World} {R:Nat} {s:RdS} {C:Nat->Prop} (h:qu w R s.1 s.2 C):
  Calls prog 260 #[γ R] w λe w'=>e= .returned (θ #[ω (qM s).1.src,υ (qM s).1.part,χ (qM s).1.miss,ω (qM s).1.high,ω (qM s).1.jit,ω (qM s).1.last,ω (qM s).1.dly])/\qu w' R (qM s).2.1 (qM s).2.2 C/\qg (λb=>b=R) w w':=by
 obtain⟨L,E⟩:=s;simp only at h;have ac:=RdB.new Γe 407 h;have aa:=h.byt;have U:qM (L,E)=(⟨num (tkB L 4),num (tkB (tkL L 4) 1),sgd (num (tkB (tkL (tkL L 4) 1) 3)) 24,num (tkB (tkL (tkL (tkL L 4) 1) 3) 4),num (tkB (tkL (tkL (tkL (tkL L 4) 1) 3) 4) 4),num (tkB (tkL (tkL (tkL (tkL (tkL L 4) 1) 3) 4) 4) 4),num (tkB (tkL (tkL (tkL (tkL (tkL (tkL L 4) 1) 3) 4) 4) 4) 4)⟩,((tkL (tkL (tkL (tkL (tkL (tkL (tkL L 4) 1) 3) 4) 4) 4) 4),(tkE (tkL (tkL (tkL (tkL (tkL (tkL L 4) 1) 3) 4) 4) 4) 4 (tkE (tkL (tkL (tkL (tkL (tkL L 4) 1) 3) 4) 4) 4 (tkE (tkL (tkL (tkL (tkL L 4) 1) 3) 4) 4 (tkE (tkL (tkL (tkL L 4) 1) 3) 4 (tkE (tkL (tkL L 4) 1) 3 (tkE (tkL L 4) 1 (tkE L 4 E))))))))):=rfl;have ab:=κ U;clear U;have ad:Byt (tkL L 4):=aa.drop _;generalize aW:num (tkB L 4)=n0 at *;generalize ar:tkE L 4 E=E1 at *;generalize ax:tkL L 4=L1 at *;have O:Byt (tkL L1 1):=ad.drop _;generalize aS:num (tkB L1 1)=n1 at *;generalize az:tkE L1 1 E1=E2 at *;generalize aX:tkL L1 1=L2 at *;have ae:=zv (tkB L2 3) 3 (jL O 3) (zh L2 3 ζ) ζ;have an:Byt (tkL L2 3):=O.drop _;generalize bg:num (tkB L2 3)=n2 at *;generalize aF:tkE L2 3 E2=E3 at *;generalize aP:tkL L2 3=L3 at *;have aD:U64 n2:=by
  unfold U64;omega
 have bo:IntKind.u64.wrap n2=n2:=by
  exact Int.emod_eq_of_lt ae.1 (by show n2<18446744073709551616;omega)
 have al:=KR n2 24 ζ ζ;have aU:(sgd n2 24+2147483648)%4294967296-2147483648=sgd n2 24:=by
  have e:two (24-1)=8388608:=by decide
  rw[e] at al;omega
 generalize aK:sgd n2 24=q at *;have bj:IntKind.i32.wrap q=q:=(At q).trans aU;have ak:Byt (tkL L3 4):=an.drop _;generalize av:num (tkB L3 4)=n3 at *;generalize ap:tkE L3 4 E3=E4 at *;generalize aZ:tkL L3 4=L4 at *;have am:Byt (tkL L4 4):=ak.drop _;generalize aw:num (tkB L4 4)=n4 at *;generalize ba:tkE L4 4 E4=E5 at *;generalize bd:tkL L4 4=L5 at *;have aH:Byt (tkL L5 4):=am.drop _;generalize be:num (tkB L5 4)=n5 at *;generalize aN:tkE L5 4 E5=E6 at *;generalize aO:tkL L5 4=L6 at *;generalize aq:num (tkB L6 4)=n6 at *;generalize aL:tkE L6 4 E6=E7 at *;generalize aG:tkL L6 4=L7 at *;clear aa ad O an ak am aH al ae
 go_enter func260,ntmps260
 go_wp2_with first | (go_at_call 56;((with_reducible refine(jD ac.rd).mono ?_);rintro e w10 ⟨rfl,bb,a0⟩;have J:=ac.step bb a0;rw[ax,ar] at J;rw[aW];have ag:=J.store 0 (ω n0);have bJ:=β0 J.b2;have bn:=qd J.b2 0)) | (go_at_call 54;(go_call jT ag.rd as e br ⟨rfl,ao,aR⟩;have H:=ag.step ao aR;rw[aX,az] at H;rw[aS];have af:=H.store 1 (υ n1);have c1:=β1 H.b2;have bw:=qd H.b2 1)) | (go_at_call 267;(go_call Je af.rd as e bB ⟨rfl,aC,aI⟩;have N:=af.step aC aI;rw[aP,aF] at N;rw[bg];have ai:=N.store 2 (χ q);have c2:=β2 N.b2;have bp:=qd N.b2 2)) | (go_at_call 266;(go_call U9 n2 24 aD ζ _ as e bH ⟨rfl,rfl⟩;rw[aK])) | (go_at_call 56;((with_reducible refine(jD ai.rd).mono ?_);rintro e bl ⟨rfl,aM,a3⟩;have I:=ai.step aM a3;rw[aZ,ap] at I;rw[av];have aj:=I.store 3 (ω n3);have c3:=β3 I.b2;have bK:=qd I.b2 3)) | (go_at_call 56;((with_reducible refine(jD aj.rd).mono ?_);rintro e bx ⟨rfl,ay,a4⟩;have G:=aj.step ay a4;rw[bd,ba] at G;rw[aw];have Y:=G.store 4 (ω n4);have bi:=β4 G.b2;have bs:=qd G.b2 4)) | (go_at_call 56;((with_reducible refine(jD Y.rd).mono ?_);rintro e bz ⟨rfl,aQ,a5⟩;have M:=Y.step aQ a5;rw[aO,aN] at M;rw[be];have ah:=M.store 5 (ω n5);have bC:=β5 M.b2;have bq:=qd M.b2 5)) | (go_at_call 56;((with_reducible refine(jD ah.rd).mono ?_);rintro e bk ⟨rfl,bf,au⟩;have d:=ah.step bf au;rw[aG,aL] at d;rw[aq];have aT:=d.store 6 (ω n6);have bD:=β6 d.b2;have bu:=qd d.b2 6;have bG:=β0 d.b2;have bE:=β1 d.b2;have bm:=β2 d.b2;have bA:=β3 d.b2;have bh:=β4 d.b2;have bI:=β5 d.b2;have aE:=β0 d.b1;have z0:=qd d.b1 0;have aB:=β1 d.b1;have bv:=qd d.b1 1;have aJ:=β2 d.b1;have bt:=qd d.b1 2;have bc:=β3 d.b1;have z3:=qd d.b1 3;have aY:=β4 d.b1;have z4:=qd d.b1 4;have aV:=β5 d.b1;have z5:=qd d.b1 5;have aA:=β6 d.b1;have bF:=qd d.b1 6))
 (refine bodyPost_ret (v:= θ #[ω n0,υ n1,χ q,ω n3,ω n4,ω n5,ω n6]) ?rr2 rfl ?_;(case rr2=>(simp[results,results260,go_sem,aE,aB,aJ,bc,aY,aV,aA])))
 have Z:=(((((((aT.fill 0 (ω n0)).fill 1 (υ n1)).fill 2 (χ q)).fill 3 (ω n3)).fill 4 (ω n4)).fill 5 (ω n5)).fill 6 (ω n6));exact⟨by rw[ab.o],by rw[ab.o];exact Z.rd.mono λg h=>h.1,Z.away⟩
end
end Go.Proofs.YtdgippmmaponfaaGreat
