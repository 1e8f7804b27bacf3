/- x -/
import Derived.Laws.BitsAllLaws
import Derived.Lib.Hide
import Derived.WalkKit
import Derived.Laws.AppendOwnNone
import Derived.Deep.QuietTactic
import Derived.BigQuiet
import Derived.Tactics2
namespace Go.Proofs.YtmgaiiffmheabaaGreatDoor
set_option linter.all false
set_option maxHeartbeats 8000000
open Go.RowKit
variable {w w' d:World} {Q:Exit->Act->World->Prop} {S:Nat->Prop} {args cs:Array Value} {v:Value} {K:Act->World->Prop} {a:Act} {b T i:Nat} {f:FuncId} {P:Program} {o:Oper} {t:TypeId} {l:List Oper} {D:World->Prop} {k:IntKind} {α:Type} {p:Addr}
def I64 (a:Int):Prop:= -9223372036854775808<=a/\a<=9223372036854775807
def U64 (a:Int):Prop:=0<=a/\a<=18446744073709551615
def May (a s:Int):Prop:=0<=a/\a<=63/\0<=s/\s<=64-a
instance (a:Int):Decidable (I64 a):=by unfold I64;infer_instance
instance (a:Int):Decidable (U64 a):=by unfold U64;infer_instance
instance (a s:Int):Decidable (May a s):=by unfold May;infer_instance
def two (k:Int):Int:=((2 ^ k.toNat:Nat):Int)
def gy (k:Int):1<=two k:=by
 unfold two;have:=Nat.two_pow_pos k.toNat;omega
def KP {a b:Int} (h:a<=b):two a<=two b:=by
 unfold two;have:=Nat.pow_le_pow_right (n:=2) (by omega) (Int.toNat_le_toNat h);omega
def JT:two 64=18446744073709551616:=by decide
def Id:two 63=9223372036854775808:=by decide
def JX {k:Int} (h:0<=k):two (k+1)=2* two k:=by
 unfold two;rw[show (k+1).toNat=k.toNat+1 from by omega,Nat.pow_succ];omega
def fld (n a s:Int):Int:=if May a s then n/two a%two s else 0
def Cs (x:Int) (s:Int) (H:U64 x) (N:0<=s) (G:s<=64):bits .and .u64 x (two s-1)=x%two s:=by
 have I:=gy s;have J:two s<=18446744073709551616:=JT▸KP G;obtain⟨d,O⟩:=H;rw[u64_and _ _ d (by omega) (by omega) (by omega)];obtain⟨m,rfl⟩:=Int.eq_ofNat_of_zero_le d;unfold two;rw[show (((2 ^ s.toNat:Nat):Int)-1).toNat=2 ^ s.toNat-1 from by omega,Int.toNat_natCast,Nat.and_two_pow_sub_one_eq_mod];omega
def EH (s:Int) (d:0<=s) (G:s<=64):IntKind.u64.wrap (IntKind.u64.wrap (2 ^ s.toNat)-1)=two s-1:=by
 rw[show ((2:Int) ^ s.toNat)=two s from by unfold two;simp];have H:=gy s;have I:two s<=18446744073709551616:=JT▸KP G;rw[IntKind.wrap_u64,IntKind.wrap_u64];by_cases h:s=64
 ·subst h;rw[JT];decide
 ·have a3:=KP (show s+1<=64 by omega);rw[JX d,JT] at a3;omega
def Fq (n a:Int) (H:U64 n):U64 (n/two a):=by
 obtain⟨d,G⟩:=H;have:=gy a;constructor
 ·exact Int.ediv_nonneg d (by omega)
 ·exact Int.le_trans (Int.ediv_le_self _ d) G
def Fj (n a s:Int) (G:U64 n) (h:May a s):bits .and .u64 (n/2 ^ a.toNat) (two s-1)=fld n a s:=by
 rw[show ((2:Int) ^ a.toNat)=two a from by unfold two;simp];unfold fld;rw[if_pos h];obtain⟨H,I,d,J⟩:=h;exact Cs _ s (Fq n a G) d (by omega)
def kC (f:Nat->Bool):Nat->Nat
 | 0=>0
 | k+1=>kC f k+(f k).toNat* 2 ^ k
def Qx (f:Nat->Bool): ∀k,kC f k<2 ^ k
 | 0=>by simp[kC]
 | k+1=>by
  have h:=Qx f k;have d:(f k).toNat<=1:=by cases f k<;>simp
  have G:(f k).toNat* 2 ^ k<=1* 2 ^ k:=Nat.mul_le_mul_right _ d;simp only[kC,Nat.pow_succ];omega
def vz (f:Nat->Bool): ∀k i,(kC f k).testBit i=(decide (i<k)&&f i)
 | 0,i=>by simp[kC]
 | k+1,i=>by
  have I:=vz f k i;have H:=Qx f k;simp only[kC];rw[Nat.add_comm,Nat.mul_comm,Nat.testBit_two_pow_mul_add _ H];by_cases h:i<k
  ·rw[if_pos h,I];simp[h];omega
  ·rw[if_neg h];by_cases h':i=k
   ·subst h';simp;cases f i<;>simp
   ·have: ¬i<k+1:=by omega
    simp only[this,decide_false,Bool.false_and];obtain⟨d,G⟩: ∃d,i-k=d+1:=⟨i-k-1,by omega⟩;rw[G];cases f k<;>simp[Nat.testBit_succ]
def Lw (f:Nat->Bool) (k m:Nat) (d:m<2 ^ k) (h: ∀i,i<k->f i=m.testBit i):kC f k=m:=by
 apply Nat.eq_of_testBit_eq;intro i;rw[vz];by_cases hi:i<k
 ·simp[hi,h i hi]
 ·simp only[hi,decide_false,Bool.false_and];exact(Nat.testBit_lt_two_pow (Nat.lt_of_lt_of_le d (Nat.pow_le_pow_right (by omega) (by omega)))).symm
def DC (n a s v:Nat):Nat:=kC (λi=>if a<=i/\i<a+s then v.testBit (i-a) else n.testBit i) 64
def EX (n a s v:Nat):DC n a s v<18446744073709551616:=Qx _ 64
def Qa (n a s v i:Nat):(DC n a s v).testBit i=(decide (i<64)&&if a<=i/\i<a+s then v.testBit (i-a) else n.testBit i):=
 vz _ _ _
def wH (a s i:Nat):((2 ^ s-1)* 2 ^ a).testBit i=decide (a<=i/\i<a+s):=by
 rw[Nat.mul_comm,Nat.testBit_two_pow_mul,Nat.testBit_two_pow_sub_one];rw[Bool.eq_iff_iff];simp;omega
def ET (n a s v:Nat) (G:n<2 ^ 64) (h:a+s<=64):
  (n&&& (2 ^ 64-1-(2 ^ s-1)* 2 ^ a))||| ((v* 2 ^ a%2 ^ 64)&&& ((2 ^ s-1)* 2 ^ a))=DC n a s v:=by
 apply Nat.eq_of_testBit_eq;intro i;have d:(2 ^ s-1)* 2 ^ a<2 ^ 64:=by
  have H:2 ^ s* 2 ^ a<=2 ^ 64:=by rw[<-Nat.pow_add];exact Nat.pow_le_pow_right (by omega) (by omega)
  have I:1* 2 ^ a<=2 ^ s* 2 ^ a:=Nat.mul_le_mul_right _ (Nat.two_pow_pos s);have J:=Nat.two_pow_pos a;rw[Nat.sub_mul];omega
 rw[Qa,Nat.testBit_or,Nat.testBit_and,Nat.testBit_and,wH,Nat.testBit_mod_two_pow,Nat.testBit_mul_two_pow,
  show 2 ^ 64-1-(2 ^ s-1)* 2 ^ a=2 ^ 64-((2 ^ s-1)* 2 ^ a+1) from by omega,Nat.testBit_two_pow_sub_succ d,wH]
 by_cases hi:i<64
 ·by_cases d:a<=i/\i<a+s
  ·simp[hi,d]
  ·simp[hi,d]
 ·have:n.testBit i=false:=Nat.testBit_lt_two_pow (Nat.lt_of_lt_of_le G (Nat.pow_le_pow_right (by omega) (by omega)));simp[hi,this]
def lay (n a s v:Int):Int:=if May a s then ((DC n.toNat a.toNat s.toNat v.toNat:Nat):Int) else n
def BY (n a s v:Int) (O:U64 n) (U:U64 v) (h:May a s):
  bits .or .u64 (bits .andNot .u64 n (IntKind.u64.wrap ((two s-1)* 2 ^ a.toNat))) (bits .and .u64 (IntKind.u64.wrap (v* 2 ^ a.toNat)) (IntKind.u64.wrap ((two s-1)* 2 ^ a.toNat)))=lay n a s v:=by
 unfold lay;rw[if_pos h];obtain⟨G,N,H,aa⟩:=h;obtain⟨n1,n2⟩:=O;obtain⟨Y,ad⟩:=U;obtain⟨d,rfl⟩:=Int.eq_ofNat_of_zero_le n1;obtain⟨V,rfl⟩:=Int.eq_ofNat_of_zero_le Y;obtain⟨A,rfl⟩:=Int.eq_ofNat_of_zero_le G;obtain⟨S,rfl⟩:=Int.eq_ofNat_of_zero_le H;simp only[Int.toNat_natCast];have ac:(2 ^ S-1)* 2 ^ A<2 ^ 64:=by
  have G:2 ^ S* 2 ^ A<=2 ^ 64:=by rw[<-Nat.pow_add];exact Nat.pow_le_pow_right (by omega) (by omega)
  have N:1* 2 ^ A<=2 ^ S* 2 ^ A:=Nat.mul_le_mul_right _ (Nat.two_pow_pos S);have H:=Nat.two_pow_pos A;rw[Nat.sub_mul];omega
 have I:IntKind.u64.wrap ((two S-1)* 2 ^ A)=(((2 ^ S-1)* 2 ^ A:Nat):Int):=by
  rw[IntKind.wrap_u64];unfold two;have:=Nat.two_pow_pos S;have e:(((2 ^ S:Nat):Int)-1)* 2 ^ A=(((2 ^ S-1)* 2 ^ A:Nat):Int):=by
   rw[Int.natCast_mul,Int.natCast_sub (by omega)];simp
  simp only[Int.toNat_natCast];rw[e];omega
 have J:IntKind.u64.wrap ((V:Int)* 2 ^ A)=((V* 2 ^ A%2 ^ 64:Nat):Int):=by
  rw[IntKind.wrap_u64,Int.natCast_emod,Int.natCast_mul];simp
 have ab:V* 2 ^ A%2 ^ 64<2 ^ 64:=Nat.mod_lt _ (by decide);rw[I,J,u64_andNot_nat d _ (by omega) (by omega),u64_and_nat _ _ (by omega) (by omega),u64_or_nat _ _ ?_ ?_,<-ET d A S V (by omega) (by omega)]
 ·exact Nat.lt_of_le_of_lt Nat.and_le_left (by omega)
 ·exact Nat.lt_of_le_of_lt Nat.and_le_left (by omega)
def sgd (n s:Int):Int:=if s<1∨s>64 then 0 else if n%two s<two (s-1) then n%two s else n%two s-two s
def Kk (a b c:Int) (d:0<c):(a* c)%(b* c)=(a%b)* c:=by
 rw[Int.mul_comm a c,Int.mul_comm b c,Int.mul_emod_mul_of_pos _ _ d,Int.mul_comm]
def WA {a b:Int} (d:0<=a) (G:0<=b):two (a+b)=two a* two b:=by
 unfold two;rw[Int.toNat_add d G,Nat.pow_add];simp
def AV (n s:Int) (N:1<=s) (O:s<=64):RowKit.wrap64 (IntKind.u64.wrap (n* 2 ^ (64-s).toNat))/2 ^ (64-s).toNat=sgd n s:=by
 rw[show ((2:Int) ^ (64-s).toNat)=two (64-s) from by unfold two;simp,IntKind.wrap_u64];have e:(18446744073709551616:Int)=two s* two (64-s):=by rw[<-WA (by omega) (by omega),<-JT];congr 1;omega
 have G:(9223372036854775808:Int)=two (s-1)* two (64-s):=by rw[<-WA (by omega) (by omega),<-Id];congr 1;omega
 have p:=gy (64-s);have q:=JX (k:=s-1) (by omega);rw[show s-1+1=s from by omega] at q;unfold sgd;rw[if_neg (by omega)];have H: ∀x:Int,0<=x->x<18446744073709551616->RowKit.wrap64 x=if x<9223372036854775808 then x else x-18446744073709551616:=by
  intro x a b;unfold RowKit.wrap64;split<;>omega
 have I:0<=n* two (64-s)%18446744073709551616:=Int.emod_nonneg _ (by decide);have J:n* two (64-s)%18446744073709551616<18446744073709551616:=Int.emod_lt_of_pos _ (by decide);rw[H _ I J,e,Kk _ _ _ (by omega),G];have d:(n%two s* two (64-s)<two (s-1)* two (64-s))↔n%two s<two (s-1):=
  ⟨λh=>Int.lt_of_mul_lt_mul_right h (by omega),λh=>Int.mul_lt_mul_of_pos_right h (by omega)⟩
 by_cases h:n%two s<two (s-1)
 ·rw[if_pos (d.2 h),if_pos h];exact Int.mul_ediv_cancel _ (by omega)
 ·rw[if_neg (λx=>h (d.1 x)),if_neg h,<-Int.sub_mul];exact Int.mul_ediv_cancel _ (by omega)
def num (l:List Int):Int:=l.foldl (λn b=>(256* n+b)%18446744073709551616) 0
def Vy (l:List Int) (b:Int):num (l++[b])=(256* num l+b)%18446744073709551616:=by simp[num]
def Is (l:List Int) (H: ∀i,0<=l.getD i 0/\l.getD i 0<=255):U64 (num l):=by
 unfold num;have: ∀(l:List Int) (n:Int),U64 n->U64 (l.foldl (λn b=>(256* n+b)%18446744073709551616) n):=by
  intro l
  induction l with
  | nil=>intro n h;exact h
  | cons x l ih=>
   intro n _;have d:=Int.emod_nonneg (256* n+x) (b:=18446744073709551616) (by decide);have G:=Int.emod_lt_of_pos (256* n+x) (b:=18446744073709551616) (by decide);exact ih _ ⟨d,Int.le_of_lt_add_one G⟩
 exact this l 0 ⟨by decide,by decide⟩
def bt (n a:Int):Int:=if n.toNat.testBit a.toNat then 1 else 0
def Byt (l:List Int):Prop:= ∀i,0<=l.getD i 0/\l.getD i 0<=255
def by8 (n:Int) (j:Nat):Int:=n/2 ^ (8* j)%256
def vY (n:Int) (s k:Nat):List Int:=(List.range s).map λi=>if s<=i+k then by8 n (s-1-i) else 0
def bys (n:Int) (s:Nat):List Int:=(List.range s).map λi=>by8 n (s-1-i)
def Y4 (n:Int) (s k:Nat):(vY n s k).length=s:=by simp[vY]
def zP (n:Int) (s:Nat):(bys n s).length=s:=by simp[bys]
def U0 (n:Int) (s:Nat):vY n s 0=List.replicate s 0:=by
 apply List.ext_getElem<;>simp[vY]
 intros;omega
def U3 (n:Int) (s:Nat):vY n s s=bys n s:=by
 apply List.ext_getElem<;>simp[vY,bys]
def Dh (n:Int) (s k:Nat) (h:k<s):(vY n s k).set (s-1-k) (by8 n k)=vY n s (k+1):=by
 apply List.ext_getElem
 ·simp[vY]
 ·intro i d G;simp[vY] at d G;rw[List.getElem_set];simp only[vY,List.getElem_map,List.getElem_range];by_cases he:s-1-k=i
  ·rw[if_pos he,if_pos (by omega),show s-1-i=k from by omega]
  ·rw[if_neg he];by_cases h3:s<=i+k
   ·rw[if_pos h3,if_pos (by omega)]
   ·rw[if_neg h3,if_neg (by omega)]
def IX (n:Int) (j:Nat):0<=by8 n j/\by8 n j<=255:=by
 unfold by8;have d:=Int.emod_nonneg (n/2 ^ (8* j)) (b:=256) (by decide);omega
def Cq (n:Int) (k:Nat):bys n (k+1)=by8 n k::bys n k:=by
 unfold bys;rw[List.range_succ_eq_map,List.map_cons,List.map_map]
 congr 1
 apply List.map_congr_left;intro i _;show by8 n (k+1-1-(i+1))=_;rw[show k+1-1-(i+1)=k-1-i from by omega]
def gM {P:List α->Prop} (d:P []) (G: ∀l x,P l->P (l++[x])) (l:List α):P l:=by
 have: ∀m:List α,P m.reverse:=by
  intro m
  induction m with
  | nil=>simpa using d
  | cons x m ih=>rw[List.reverse_cons];exact G _ x ih
 simpa using this l.reverse
def yJ (l:List Int):Int:=l.foldl (λn b=>256* n+b) 0
def yR (l:List Int) (b:Int):yJ (l++[b])=256* yJ l+b:=by simp[yJ]
def OA (a:List Int): ∀b:List Int,yJ (a++b)=yJ a* 256 ^ b.length+yJ b:=by
 refine gM (by simp[yJ]) λb x d=> ?_
 ·rw[<-List.append_assoc,yR,d,yR,List.length_append,List.length_singleton,Int.pow_succ,Int.mul_add,<-Int.mul_assoc];rw[<-Int.mul_assoc,Int.mul_comm (yJ a* _) 256,<-Int.mul_assoc];omega
def Xh (l:List Int):num l=yJ l%18446744073709551616:=by
 refine gM (P:=λl=>num l=yJ l%18446744073709551616) rfl (λl x d=> ?_) l;rw[Vy,yR,d];omega
def Sz (l:List Int):num (l.drop (l.length-8))=num l:=by
 by_cases h:l.length<=8
 ·rw[show l.length-8=0 from by omega,List.drop_zero]
 ·rw[Xh,Xh l];have e:=OA (l.take (l.length-8)) (l.drop (l.length-8));rw[List.take_append_drop,List.length_drop,show l.length-(l.length-8)=8 from by omega] at e;rw[e,show (256:Int) ^ 8=18446744073709551616 from by decide];omega
def Ir (n b:Int) (J:U64 n) (I:0<=b/\b<=255):bits .or .u64 (IntKind.u64.wrap (n* 256)) b=(256* n+b)%18446744073709551616:=by
 obtain⟨H,O⟩:=J;obtain⟨G,N⟩:=I;obtain⟨d,rfl⟩:=Int.eq_ofNat_of_zero_le H;obtain⟨B,rfl⟩:=Int.eq_ofNat_of_zero_le G;rw[IntKind.wrap_u64,show ((d:Int)* 256)%18446744073709551616=((d* 256%18446744073709551616:Nat):Int) from by omega,u64_or_nat _ _ (by omega) (by omega)];have e:d* 256%18446744073709551616=2 ^ 8* (d%2 ^ 56):=by omega
 rw[e,<-Nat.two_pow_add_eq_or_of_lt (by omega)];omega
def ZJ (l:List Int) (j:Nat) (h:j<l.length) (d:Byt l):bits .or .u64 (IntKind.u64.wrap (num (l.take j)* 256)) (IntKind.u64.wrap l[j])=num (l.take (j+1)):=by
 have H:=Is (l.take j) (λi=>by
  by_cases hi:i<(l.take j).length
  ·have:=d i;rw[List.getD_eq_getElem?_getD,List.getElem?_take] at *;simp at hi;rw[if_pos (by omega)];exact this
  ·simp at hi
   rw[List.getD_eq_getElem?_getD,List.getElem?_eq_none (by simp;omega)];simp)
 have G:=d j;rw[List.getD_eq_getElem?_getD,List.getElem?_eq_getElem h,Option.getD_some] at G;rw[show IntKind.u64.wrap l[j]=l[j] from by rw[IntKind.wrap_u64];omega,Ir _ _ H G,List.take_succ_eq_append_getElem h,Vy]
def qZ {a b:Bool} (h:a=b):Ending.returned (.bool a)= .returned (.bool b):=by rw[h]
def xV {a b:Int} (h:a=b):Ending.returned (.int k a)= .returned (.int k b):=by rw[h]
abbrev ql (w w':World):Prop:=Below w.heap.size w w'
def ql.refl (w:World):ql w w:=Below.refl _ _
def ql.trans {a b c:World} (h:ql a b) (k:ql b c):ql a c:=Below.trans h (k.mono h.size)
def ql.drewN (w:World) (k:Nat):ql w (w.drewN k):=⟨rfl,rfl,rfl,Nat.le_refl _,λ_ _=>rfl⟩
def ql.alloc (w:World) (o:Obj):ql w (w.alloc o):=(Below.refl _ _).alloc (Nat.le_refl _) o
def ql.dr (h:ql w w') (k:Nat):ql w (w'.drewN k):=h.trans (ql.drewN _ _)
def ql.al (h:ql w w') (o:Obj):ql w (w'.alloc o):=h.trans (ql.alloc _ _)
def ql.st (h:ql w w') (d:w.heap.size<=p.block) (v:Value):ql w (w'.setCell p v):=Below.setCell h d v
def ql.cells (h:ql w w') (b o:Nat) (d:b<w.heap.size):w'.cell? ⟨b,o,none⟩=w.cell? ⟨b,o,none⟩:=h.cell (p:=⟨b,o,none⟩) d
def ql.rules (h:ql w w'):(∀b o,b<w.heap.size->w'.cell? ⟨b,o,none⟩=w.cell? ⟨b,o,none⟩)/\(∀b o,b<w.heap.size->w'.frozen? ⟨b,o,none⟩=w.frozen? ⟨b,o,none⟩):=
 ⟨λb o d=>h.cell (p:=⟨b,o,none⟩) d,λb o d=>h.frozen (p:=⟨b,o,none⟩) d⟩
def SlI (k:IntKind) (w:World) (v:Value) (l:List Int):Prop:=
 ∃oa cap,v= .slice oa l.length cap/\(l.length:Int)<=9223372036854775807/\(∀i,i<l.length-> ∃b off,oa=some ⟨b,off,none⟩/\b<w.heap.size/\w.cell? ⟨b,off+i,none⟩=some (.int k (l.getD i 0)))/\l.length<=cap/\cap<=maxLen/\(oa=none->cap=0)
def SlI.keep {l:List Int} (h:SlI k w v l) (m:ql w w'):SlI k w' v l:=by
 obtain⟨O,cap,G,H,I,J⟩:=h;refine⟨O,cap,G,H,λi hi=> ?_,J⟩;obtain⟨b,off,e,d,N⟩:=I i hi;exact⟨b,off,e,Nat.lt_of_lt_of_le d m.size,by rw[m.cells b _ d];exact N⟩
def SlI.nil (k:IntKind) (w:World):SlI k w (.slice none 0 0) []:=⟨none,0,rfl,by simp,λi hi=>by simp at hi,by simp,by unfold maxLen;omega,λ_=>rfl⟩
def SlI.of_owns {base e:Nat} {l:List Int} (h:w.ownsRow base e 1 v l.length (l.map (Value.int k))) (G:(l.length:Int)<=9223372036854775807):SlI k w v l:=by
 obtain⟨U,I⟩:=h;rcases I with ⟨rfl,H⟩ | ⟨g,cap,cur,rfl,Y,d,N,J,aa,O⟩
 ·exact⟨none,0,by rw[H],G,λi hi=>by omega,by omega,by unfold maxLen;omega,λ_=>rfl⟩
 ·refine⟨_,cap,rfl,G,λi hi=>⟨g,0,rfl,lt_of_block d, ?_⟩,N,J,λh=>by cases h⟩;rw[Nat.zero_add,cell_of_row w g i cur e (0,0) d];have:(cur.toList.take (l.length* 1))[i]? =(l.map (Value.int k))[i]? :=by rw[O]
  rw[List.getElem?_take,if_pos (by omega)] at this;simp at this;simp[this,hi]
def SlI.lit (k:IntKind) (w:World) (l:List Int) (e:TypeId) (cs:Array Value) (n b:Nat) (h:cs=(l.map (Value.int k)).toArray) (H:n=l.length) (G:b=w.heap.size) (I:l.length<=1000):
  SlI k (w.alloc (.cells cs e)) (.slice (some ⟨b,0,none⟩) n n) l:=by
 subst h H G;have d:=World.ownsRow_lit (base:=w.heap.size) (size:=1) (e:=e) w (l.map (Value.int k)).toArray l.length (Nat.le_refl _) (by unfold maxLen;omega) (by simp);exact SlI.of_owns (base:=w.heap.size) (e:=e) (by simpa using d) (by omega)
def Byt.of_all {l:List Int} (h:(l.all λx=>decide (0<=x/\x<=255))=true):Byt l:=by
 intro i;rw[List.getD_eq_getElem?_getD];by_cases hi:i<l.length
 ·rw[List.getElem?_eq_getElem hi,Option.getD_some];rw[List.all_eq_true] at h
  simpa using h l[i] (List.getElem_mem hi)
 ·rw[List.getElem?_eq_none (by omega)];simp
def xr (w:World) {ops:Array Oper} {rest:List Oper} (J:o.guard=none) (s x:Operand) (t:TypeId)
  (O:o.op= .call {callee:= .builtin .append,args:= #[s,x],argTypes:= #[t,t]})
  (base:Nat) (e:TypeId) (i:TypeInfo) (z:Value) (bytes:Nat) (Y:P.underlying t=some (.slice e)) (hi:P.info? e=some i) (av:i.zero=some z)
  (ar:i.size=1) (aj:i.bytes=bytes) (aw:z.cells.size=1)
  (v:Value) (k:IntKind) (l:List Int) (U:a.eval s=v) (H:w.ownsRow base e 1 v l.length (l.map (Value.int k)))
  (ac:Value) (d:List Int) (aa:a.eval x=ac) (am:SlI k w ac d)
  (ak:(l.length+d.length)* bytes<=140737488355328) (ay:1<=bytes) (ai:base<=w.heap.size)
  (h: ∀v' w',w'.ownsRow base e 1 v' (l++d).length ((l++d).map (Value.int k))->w.grownBy w' v.ownBlock->wpList P ops Q rest (a.put o.dst v') w'):wpList P ops Q (o::rest) a w:=by
 have ah:l.length+d.length<=maxLen:=by
  have:=Nat.le_mul_of_pos_right (l.length+d.length) (show 0<bytes by omega);unfold maxLen;omega
 obtain⟨ax,cap,rfl,az,an,aA,aB,ao⟩:=am;cases ax with
 | none=>
  have G:cap=0:=ao rfl;subst G;have aq:d=[]:=List.eq_nil_of_length_eq_zero (by omega);subst aq;refine wpList_append_own_none J s x t O base e i 1 Y hi v l.length (l.map (Value.int k)) U H aa ?_;exact h v w (by simpa using H) ⟨rfl,rfl,rfl,Nat.le_refl _,λ_ _ _=>rfl⟩
 | some ad=>
  refine wpList_append_own w J s x t O base e i z 1 bytes Y hi av ar aj aw (by decide) v l.length (l.map (Value.int k)) U H ad d.length cap (d.map (Value.int k)) aa (by simp) ?_ ?_ ah ak ai ?_
  ·intro j u N;rw[List.getElem?_map] at N;obtain⟨y,ab,rfl⟩:=Option.map_eq_some_iff.1 N;obtain⟨ap,aC⟩:=List.getElem?_eq_some_iff.1 ab;obtain⟨b,off,I,_,al⟩:=an j ap;simp only[Option.some.injEq] at I;subst I;have ae:(⟨b,off,none⟩:Addr).add j=⟨b,off+j,none⟩:=by
    unfold Addr.add;split
    ·rename_i G;subst G;rfl
    ·rfl
   rw[ae,al,List.getD_eq_getElem?_getD,ab];rfl
  ·intro u au;obtain⟨y,_,rfl⟩:=List.mem_map.1 au;rfl
  ·intro v' w' af ag _;exact h v' w' (by simpa using af) ag
section
variable {P:Program} {ops:Array Oper} {md:Region.Mode} {C:World->Prop}
def JU:Op->Bool
 | .move _ | .assign _ | .pick .. | .load .. | .binOp .. | .unOp .. | .convert .. | .fieldAddr .. | .field .. | .indexAddr .. | .index .. | .slice .. | .build .. | .extract .. | .lookup .. | .typeAssert .. | .nilCheck _=>true
 | .call c=>match c.callee with
  | .builtin .len | .builtin .cap | .builtin .max | .builtin .min=>true
  | _=>false
 | _=>false
def VC {s:Sem Value}:(do let x <-s;pure (Next.value x):Sem Next).run P w≠ .ok (.enter f args) w':=by
 rw[Sem.run_bind];cases s.run P w with
 | ok a w1=>simp[Result.andThen]
 | halt h w1=>simp[Result.andThen]
def xo {s:Sem α} {g:α->Sem Next} (h: ∀a w1,(g a).run P w1≠ .ok (.enter f args) w'):(s>>=g).run P w≠ .ok (.enter f args) w':=by
 rw[Sem.run_bind];cases s.run P w with
 | ok a w1=>exact h a w1
 | halt x w1=>simp[Result.andThen]
def yh {e:RuntimeError}:(runtimePanic e:Sem Next).run P w≠ .ok (.enter f args) w':=by
 unfold runtimePanic;refine xo λa w1=> ?_
 cases e
 case typeAssertion=>
  refine xo λb w2=> ?_
  refine xo λc d=> ?_
  simp[goPanic]
 case panicNil=>
  refine xo λb w2=> ?_
  refine xo λc d=> ?_
  simp[goPanic]
 all_goals simp[goPanic]
def Qg {x:Operand} {dst:Option Tmp} {H:TypeId} {pos:String} {d:Array Edge} {G:Option (Nat×Bool)} {ρ:Operand->Value}:
  (execOp ρ {dst:=dst,op:= .nilCheck x,type:=H,pos:=pos,after:=d,guard:=G}).run P w≠ .ok (.enter f args) w':=by
 simp only[execOp];split
 ·exact yh
 ·exact yh
 ·exact yh
 ·split
  ·exact yh
  ·refine xo λa w1=> ?_
   refine xo λb w2=> ?_
   split
   ·refine xo λc I=> ?_
    simp
   ·simp
  ·simp
 ·simp
def XS {ρ:Operand->Value} (h:JU o.op=true):(execOp ρ o).run P w≠ .ok (.enter f args) w':=by
 obtain⟨dst,op,J,pos,G,I⟩:=o;cases op<;>simp only[JU] at h<;>first | (cases h;done) | skip
 case move x=>simp[execOp]
 case assign x=>simp[execOp]
 case pick c a b=>
  simp only[execOp,Sem.run_bind];cases (asBool (ρ c)).run P w<;>simp[Result.andThen]
 case nilCheck x=>exact Qg
 case call c=>
  obtain⟨callee,H,N⟩:=c;cases callee with
  | builtin b=>
   cases b<;>simp only at h<;>first | (cases h;done) | skip
   all_goals
    simp only[execOp,resolve,Sem.run_bind,Sem.run_pure,Result.andThen_ok,invoke,builtin];intro d;exact VC (by rw[Sem.run_bind];exact d)
  | value _=>cases h
  | invoke _ _=>cases h
 all_goals exact VC
def jn (P:Program) (C:World->Prop) (o:Oper) (a:Act) (w:World) (K:Act->World->Prop):Prop:=
 match (execOp a.eval o).run P w with
 | .ok (.value v) w'=>C w'/\K (a.put o.dst v) w'
 | .ok .skip w'=>C w'/\K (a.put o.dst undef) w'
 | .ok (.enter f args) w'=>Calls P f args w' λe w''=> ∃v,e= .returned v/\C w''/\K (a.put o.dst v) w''
 | _=>False
def yn (P:Program) (ops:Array Oper) (C:World->Prop) (i:Nat) (K:Act->World->Prop) (a:Act) (w:World):Prop:=
 match ops[i]? with
 | none=>C w/\K a w
 | some o=>if Region.wanted o (yielded ops a.tmps) then jn P C o a w K else C w/\K (a.put o.dst undef) w
def wj {K':Act->World->Prop} (h: ∀a w,C w->K a w->K' a w) (d:jn P C o a w K):jn P C o a w K':=by
 unfold jn at *;generalize (execOp a.eval o).run P w=r at *;cases r with
 | ok n w'=>
  cases n<;>simp only at d ⊢
  case value v=>exact⟨d.1,h _ _ d.1 d.2⟩
  case skip=>exact⟨d.1,h _ _ d.1 d.2⟩
  case enter f args=>exact d.mono λe w'' ⟨v,H,G,I⟩=>⟨v,H,G,h _ _ G I⟩
 | halt x w'=>simp only at d
def qfQ {D':World->Prop} (d: ∀w,D w->D' w) (h:jn P D o a w K):jn P D' o a w K:=by
 unfold jn at *;generalize (execOp a.eval o).run P w=r at *;cases r with
 | ok n w'=>
  cases n<;>simp only at h ⊢
  case value v=>exact⟨d _ h.1,h.2⟩
  case skip=>exact⟨d _ h.1,h.2⟩
  case enter f args=>exact h.mono λe w'' ⟨v,G,H,I⟩=>⟨v,G,d _ H,I⟩
 | halt x w'=>simp only at h
def OB {K':Act->World->Prop} (h: ∀a w,C w->K a w->K' a w) (d:yn P ops C i K a w):yn P ops C i K' a w:=by
 unfold yn at *;split
 ·rename_i G;simp only[G] at d;exact⟨d.1,h _ _ d.1 d.2⟩
 ·rename_i o G;simp only[G] at d;split
  ·rename_i H;simp only[H,if_true] at d;exact wj h d
  ·rename_i H;simp only[H] at d;exact⟨d.1,h _ _ d.1 d.2⟩
def Dem (T:Nat) (C:World->Prop) (i:Nat) (w:World):Prop:=i<T->C w
def yF {C:World->Prop} (h:C w):Dem T C i w:=λ_=>h
def Qp (P:Program) (md:Region.Mode) (ops:Array Oper) (T:Nat) (C:World->Prop) (Q:Act->World->Prop):Nat->Array Bool->Act->World->Prop
 | 0,listed,a,w=>Region.ready md ops listed=[]/\Q a w
 | fuel+1,listed,a,w=>
  (Region.ready md ops listed=[]->Q a w)/\
  ∀i∈Region.ready md ops listed,yn P ops (Dem T C i) i (Qp P md ops T C Q fuel (listed.setIfInBounds i true)) a w
def Ui (h:jn P C o a w K):o.wp P a w K Q:=by
 unfold jn at h;unfold Oper.wp;generalize (execOp a.eval o).run P w=r at *;cases r with
 | ok n w'=>
  cases n<;>simp only at h<;>simp only[Oper.upon]
  case value v=>exact h.2
  case skip=>exact h.2
  case enter f args=>exact h.mono λe w'' ⟨v,d,_,G⟩=>by subst d;exact G
 | halt x w'=>simp only at h
def wT {Q:Act->World->Prop} {H:Exit->Act->World->Prop} (I: ∀a w,Q a w->H .normal a w): ∀(G:Nat) (listed:Array Bool) (a:Act) (w:World),
  Qp P md ops T C Q G listed a w->wpAny P md ops H G listed a w
 | 0,_,_,_,h=>⟨h.1,I _ _ h.2⟩
 | G+1,_,_,_,h=>⟨λU=>I _ _ (h.1 U),λi hi=>by
   have d:=OB (K':=wpAny P md ops H G _) (λa' w' _ O=>wT I G _ a' w' O) (h.2 i hi);unfold yn at d;unfold wpOp;split
   ·rename_i J;simp only[J] at d;exact d.2
   ·rename_i o J;simp only[J] at d;split
    ·rename_i N;simp only[N,if_true] at d;exact .inl (Ui d)
    ·rename_i N;simp only[N] at d;exact d.2⟩
def gp (P:Program) (ops:Array Oper) (C:World->Prop) (o:Oper) (v:Value) (a:Act):Prop:=
 (Region.wanted o (yielded ops a.tmps)=true/\ ∀w,C w->(execOp a.eval o).run P w= .ok (.value v) w∨((execOp a.eval o).run P w= .ok .skip w/\v=undef))∨
 (Region.wanted o (yielded ops a.tmps)=false/\v=undef)
def gp.of_same {a':Act} (H:gp P ops C o v a) (d:execOp a'.eval o=execOp a.eval o)
  (G:Region.wanted o (yielded ops a'.tmps)=Region.wanted o (yielded ops a.tmps)):gp P ops C o v a':=by
 unfold gp at *;rw[d,G];exact H
def gp.op (hi:ops[i]? =some o) (J:gp P ops C o v a) (H:C w) (d:D w) (h:K (a.put o.dst v) w):yn P ops D i K a w:=by
 unfold yn;simp only[hi];rcases J with ⟨G,I⟩ | ⟨G,rfl⟩
 ·simp only[G,if_true,jn];rcases I w H with e | ⟨e,rfl⟩
  ·rw[e];exact⟨d,h⟩
  ·rw[e];exact⟨d,h⟩
 ·simp only[G,Bool.false_eq_true,if_false];exact⟨d,h⟩
def UO {j:Nat} {d G:Oper} (ad:ops[j]? =some G) (ac:d.apart ops G=true)
  (ae: ∀cs b,d.op≠ .select cs b) (af: ∀cs b,G.op≠ .select cs b)
  (H:gp P ops C d v a) (h:yn P ops D j K (a.put d.dst v) w):
  yn P ops D j (λa' w'=>gp P ops C d v a'/\K (a'.put d.dst v) w') a w:=by
 obtain⟨O,I,U⟩:=Oper.apart_spec ac;have J: ∀(a:Act),gp P ops C d v a-> ∀u,gp P ops C d v (a.put G.dst u):=λa H u=>
  H.of_same (execOp_put d ae a G.dst u U) (wanted_put d a G.dst u U)
 unfold yn at *;simp only[ad] at *;rw[wanted_put G a d.dst v O] at h;split
 ·rename_i N;simp only[N,if_true] at h;unfold jn at *;rw[execOp_put G af a d.dst v O] at h;generalize (execOp a.eval G).run P w=r at *;cases r with
  | ok n w'=>
   cases n<;>simp only at h ⊢
   case value u=>exact⟨h.1,J a H u,by rw[<-Act.put_comm a v u I];exact h.2⟩
   case skip=>exact⟨h.1,J a H _,by rw[<-Act.put_comm a v undef I];exact h.2⟩
   case enter f args=>exact h.mono λe w'' ⟨u,Y,aa,ab⟩=>⟨u,Y,aa,J a H u,by rw[<-Act.put_comm a v u I];exact ab⟩
  | halt x w'=>simp only at h
 ·rename_i N;simp only[N] at h;exact⟨h.1,J a H _,by rw[<-Act.put_comm a v undef I];exact h.2⟩
def gU {Q:Act->World->Prop} {J:Oper} (hi:ops[i]? =some J) (ak: ∀(j:Nat) (o:Oper) cs b,ops[j]? =some o->o.op≠ .select cs b)
  (ao: ∀j d,ops[j]? =some d->T<=j->j≠i-> ∃e∈d.after,Region.binds md e=true/\e.on=i):
  ∀(O:Nat) (G:Array Bool) (a:Act) (w:World),C w->
   (∀j d,ops[j]? =some d->j≠i->G.getD j true=false->(∀e∈d.after,Region.binds md e=true->e.on≠i)->J.apart ops d=true)->
   i∈Region.ready md ops G->gp P ops C J v a->
   Qp P md ops T C Q O (G.setIfInBounds i true) (a.put J.dst v) w->Qp P md ops T C Q (O+1) G a w:=by
 intro O
 induction O with
 | zero=>
  intro G a w U _ I ac N;refine⟨λh=>(by rw[h] at I;cases I),λj aa=> ?_⟩;by_cases hji:j=i
  ·subst hji;exact ac.op hi U (yF U) N
  ·have:=ready_mono aa hji;rw[N.1] at this;cases this
 | succ O ih=>
  intro G a w U ah I ac N;refine⟨λh=>(by rw[h] at I;cases I),λj aa=> ?_⟩;by_cases hji:j=i
  ·subst hji;exact ac.op hi U (yF U) N
  ·have H:=N.2 j (ready_mono aa hji);obtain⟨ai,d,ab,ap⟩:=mem_ready.1 aa;have aj: ∀e∈d.after,Region.binds md e=true->e.on≠i:=λe ae ad aq=>by
    have H:=ap e ae ad;have af:=(mem_ready.1 I).1;rw[aq] at H;rcases Nat.lt_or_ge i G.size with h' | h'
    ·simp[h'] at af H;rw[af] at H;cases H
    ·simp[Array.getElem?_eq_none h'] at H
   have am:=UO ab (ah j d ab hji ai aj) (λcs b=>ak i J cs b hi) (λcs b=>ak j d cs b ab) ac H;have ar: ∀k Y,ops[k]? =some Y->k≠i->(G.setIfInBounds j true).getD k true=false->
     (∀e∈Y.after,Region.binds md e=true->e.on≠i)->J.apart ops Y=true:=λk Y av aw al ax=>by
    refine ah k Y av aw ?_ ax;by_cases hjk:j=k
    ·subst hjk;exact ai
    ·rw[getD_set_ne true hjk] at al;exact al
   have au:j<T:=by
    rcases Nat.lt_or_ge j T with h | h
    ·exact h
    ·obtain⟨e,ae,ad,ay⟩:=ao j d ab h hji;exact absurd ay (aj e ae ad)
   refine OB (λa' w' an ag=>ih (G.setIfInBounds j true) a' w' (an au) ar (ready_mono I (Ne.symm hji)) ag.1 ?_) am;rw[Array.setIfInBounds_comm _ _ hji];exact ag.2
def Wq (md:Region.Mode) (ops:Array Oper) (T k:Nat):Bool:=
 (List.range ops.size).all λj=>decide (j<T)||j==k||((ops[j]?).map λo=>o.after.any λe=>Region.binds md e&&e.on==k).getD false
def Xw {k:Nat} (h:Wq md ops T k=true) (j:Nat) (I:Oper) (H:ops[j]? =some I) (U:T<=j) (O:j≠k): ∃e∈I.after,Region.binds md e=true/\e.on=k:=by
 unfold Wq at h;have N:j<ops.size:=(Array.getElem?_eq_some_iff.1 H).1;have d:=List.all_eq_true.1 h j (List.mem_range.2 N);rw[H] at d;simp only[Option.map_some,Option.getD_some,Bool.or_eq_true,decide_eq_true_eq,beq_iff_eq] at d;rcases d with (d | d) | d
 ·omega
 ·exact absurd d O
 ·obtain⟨e,J,G⟩:=Array.any_eq_true'.1 d;simp only[Bool.and_eq_true,beq_iff_eq] at G;exact⟨e,J,G.1,G.2⟩
def JG (md:Region.Mode) (ops:Array Oper) (T:Nat):List (Nat×Bool)->Array Bool->Bool
 | [],listed=>(Region.ready md ops listed).isEmpty
 | (k,true)::rest,listed=>decide (Region.ready md ops listed=[k])&&JG md ops T rest (listed.setIfInBounds k true)
 | (k,false)::rest,listed=>(Region.ready md ops listed).contains k&&Region.free md ops listed k&&((ops[k]?).map (JU ·.op)).getD false&&Wq md ops T k&&JG md ops T rest (listed.setIfInBounds k true)
def uk (P:Program) (ops:Array Oper) (T:Nat) (C:World->Prop) (Q:Act->World->Prop):List (Nat×Bool×Oper)->Act->World->Prop
 | [],a,w=>Q a w
 | (k,true,o)::rest,a,w=>if Region.wanted o (yielded ops a.tmps) then jn P (Dem T C k) o a w (uk P ops T C Q rest) else C w/\uk P ops T C Q rest (a.put o.dst undef) w
 | (_,false,o)::rest,a,w=>C w/\if Region.wanted o (yielded ops a.tmps) then o.quiet P a C (λa'=>uk P ops T C Q rest a' w) else uk P ops T C Q rest (a.put o.dst undef) w
def wI {K:Act->Prop} (N:JU o.op=true) (O:Region.wanted o (yielded ops a.tmps)=true) (h:o.quiet P a C K): ∃v,gp P ops C o v a/\K (a.put o.dst v):=by
 obtain⟨v,G,H⟩:=h;refine⟨v,.inl ⟨O,λw I=> ?_⟩,H⟩;have d:=G w I;unfold Oper.quietAt at d;have J:=λf args w'=>XS (P:=P) (ρ:=a.eval) N (w:=w) (w':=w') (f:=f) (args:=args)
 generalize (execOp a.eval o).run P w=r at *;cases r with
 | ok n w'=>
  cases n<;>simp only[Oper.quietUpon] at d
  case value u=>obtain⟨rfl,rfl⟩:=d;exact .inl rfl
  case skip=>obtain⟨rfl,rfl⟩:=d;exact .inr ⟨rfl,rfl⟩
  case enter f args=>exact absurd rfl (J f args w')
 | halt x w'=>simp only[Oper.quietUpon] at d
def kL {Q:Act->World->Prop} (N:Region.noSelect ops=true): ∀(l:List (Nat×Bool×Oper)) (listed:Array Bool) (a:Act) (w:World),(∀x∈l,ops[x.1]? =some x.2.2)->
  JG md ops T (l.map λx=>(x.1,x.2.1)) listed=true->uk P ops T C Q l a w->Qp P md ops T C Q l.length listed a w
 | [],_,_,_,_,hB,h=>⟨by simpa [JG] using hB,h⟩
 | (k,true,o)::l,listed,a,w,hl,hB,h=>by
  have G:ops[k]? =some o:=hl _ (List.mem_cons_self ..);simp only[List.map_cons,JG,Bool.and_eq_true,decide_eq_true_eq] at hB;obtain⟨J,I⟩:=hB;refine⟨λU=>(by rw[J] at U;cases U),λi hi=> ?_⟩;rw[J] at hi;obtain rfl:i=k:=by simpa using hi
  unfold yn;simp only[G];unfold uk at h;split
  ·rename_i d;rw[if_pos d] at h;exact wj (λa' w' _ Y=>kL N l _ a' w' (λx H=>hl x (List.mem_cons_of_mem _ H)) I Y) h
  ·rename_i d;rw[if_neg d] at h;exact⟨yF h.1,kL N l _ _ w (λx H=>hl x (List.mem_cons_of_mem _ H)) I h.2⟩
 | (k,false,o)::l,listed,a,w,hl,hB,h=>by
  have G:ops[k]? =some o:=hl _ (List.mem_cons_self ..);simp only[List.map_cons,JG,Bool.and_eq_true] at hB;obtain⟨⟨⟨⟨J,ac⟩,O⟩,ad⟩,I⟩:=hB;rw[G] at O;simp only[Option.map_some,Option.getD_some] at O;unfold uk at h;obtain⟨aa,h⟩:=h;obtain⟨v,ae,ab⟩: ∃v,gp P ops C o v a/\uk P ops T C Q l (a.put o.dst v) w:=by
   by_cases d:Region.wanted o (yielded ops a.tmps)=true
   ·rw[if_pos d] at h;exact wI O d h
   ·rw[if_neg d] at h;exact⟨undef,.inr ⟨by simpa using d,rfl⟩,h⟩
  exact gU G (Region.noSelect_spec N) (Xw ad) l.length listed a w aa (Region.free_spec G ac) (by simpa using J) ae
   (kL N l _ _ w (λx H=>hl x (List.mem_cons_of_mem _ H)) I ab)
def zU (P:Program) (l:List Oper) (T:Nat) (C:World->Prop) (Q:Act->World->Prop) (n:List (Nat×Bool)) (a:Act) (w:World):Prop:=
 uk P l.toArray T C Q (n.map λx=>(x.1,x.2,l[x.1]?.getD default)) a w
section
variable {l:List Oper} {T:Nat} {Q:Act->World->Prop} {k:Nat} {b:Bool} {o:Oper} {rest:List (Nat×Bool)} {a:Act} {w:World}
def qA (h:Q a w):zU P l T C Q [] a w:=h
def qE (G:l[k]? =some o) (H:Region.wanted o (yielded l.toArray a.tmps)=true) (d:C w) (h: ∀K:Act->Prop,(∀a,zU P l T C Q rest a w->K a)->o.quiet P a C K):zU P l T C Q ((k,false)::rest) a w:=by
 unfold zU;rw[List.map_cons,G,Option.getD_some];unfold uk;rw[if_pos H];exact⟨d,h _ (λa h=>h)⟩
def Vz (d:l[k]? =some o) (G:Region.wanted o (yielded l.toArray a.tmps)=true) (h: ∀K:Act->World->Prop,(∀a w,zU P l T C Q rest a w->K a w)->jn P (Dem T C k) o a w K):zU P l T C Q ((k,true)::rest) a w:=by
 unfold zU;rw[List.map_cons,d,Option.getD_some];unfold uk;rw[if_pos G];exact h _ (λa w h=>h)
def zY (I:l[k]? =some o) (J:Region.wanted o (yielded l.toArray a.tmps)=true) (N:T<=k) (h: ∀K:Act->World->Prop,(∀a w,zU P l T C Q rest a w->K a w)->jn P (λ_=>True) o a w K):zU P l T C Q ((k,true)::rest) a w:=
 Vz I J λK G=>by
  have d:=h K G;exact qfQ (λw _=>λH=>absurd H (by omega)) d
def jR (G:l[k]? =some o) (H:Region.wanted o (yielded l.toArray a.tmps)=true) (h: ∀K:Act->World->Prop,(∀a w,zU P l T C Q rest a w->K a w)->jn P C o a w K):zU P l T C Q ((k,true)::rest) a w:=
 Vz G H λK d=>qfQ (λ_ h=>yF h) (h K d)
end
def wD {id:Nat} (T:Nat) (n:List (Nat×Bool)) (O:P.follows .mixedOrders=true)
  (d:(Region.noSelect l.toArray&&JG .any l.toArray T n (Array.replicate l.length false)&&decide (n.length=l.length)&&n.all λx=>decide (x.1<l.length))=true)
  (h:zU P l T C (Q .normal) n a {w with drawn:=w.drawn+1}):(Code.region id l.toArray true).wp P Q a w:=by
 simp only[Bool.and_eq_true,decide_eq_true_eq,List.all_eq_true] at d;obtain⟨⟨⟨G,H⟩,I⟩,J⟩:=d;refine wp_region_any O (wT (T:=T) (C:=C) (Q:=Q .normal) (λ_ _ h=>h) _ _ _ _ ?_);unfold zU at h;have N:(n.map λx=>(x.1,x.2,l[x.1]?.getD default)).length=l.toArray.size:=by simp[I]
 have key:=kL (md:= .any) (T:=T) (C:=C) (Q:=Q .normal) G (n.map λx=>(x.1,x.2,l[x.1]?.getD default)) (Array.replicate l.toArray.size false) a {w with drawn:=w.drawn+1} ?_ ?_ h
 ·rw[N] at key;exact key
 ·intro x U;obtain⟨y,Y,rfl⟩:=List.mem_map.1 U;have:=J y Y;simp[this]
 ·rw[List.map_map];have e:(n.map ((λx:Nat×Bool×Oper=>(x.1,x.2.1))∘λx:Nat×Bool=>(x.1,x.2,l[x.1]?.getD default)))=n:=by
   have:((λx:Nat×Bool×Oper=>(x.1,x.2.1))∘λx:Nat×Bool=>(x.1,x.2,l[x.1]?.getD default))=λx=>x:=rfl
   rw[this,List.map_id']
  rw[e]
  simpa using H
end
structure jt (S:Nat->Prop) (w w':World):Prop where
 os:w'.os=w.os
 tape:w'.tape=w.tape
 output:w'.output=w.output
 size:w.heap.size<=w'.heap.size
 block: ∀k,k<w.heap.size-> ¬S k->w'.heap[k]? =w.heap[k]?
def jt.refl (S:Nat->Prop) (w:World):jt S w w:=⟨rfl,rfl,rfl,Nat.le_refl _,λ_ _ _=>rfl⟩
def jt.trans {a b c:World} (h:jt S a b) (k:jt S b c):jt S a c:=
 ⟨k.os.trans h.os,k.tape.trans h.tape,k.output.trans h.output,Nat.le_trans h.size k.size,λi hi d=>(k.block i (Nat.lt_of_lt_of_le hi h.size) d).trans (h.block i hi d)⟩
def jt.to_more {a b:World} (m:ql w a) (h:jt S a b) (G: ∀k,S k->w.heap.size<=k):ql w b:=
 ⟨h.os.trans m.os,h.tape.trans m.tape,h.output.trans m.output,Nat.le_trans m.size h.size,λk d=>(h.block k (Nat.lt_of_lt_of_le d m.size) (λx=>by have:=G k x;omega)).trans (m.block k d)⟩
def jt.drewN {a b:World} (h:jt S a b) (k:Nat):jt S a (b.drewN k):=⟨h.os,h.tape,h.output,h.size,h.block⟩
def jt.set {a b:World} (h:jt S a b) (H:S p.block) (v:Value):jt S a (b.setCell p v):=
 ⟨h.os,h.tape,h.output,by simpa [World.setCell] using h.size,λk G d=>by rw[Below.heap_setCell _ _ _ _ (λe=>d (by rw[e];exact H))];exact h.block k G d⟩
def jt.of_grown {v:Option Nat} (g:w.grownBy w' v):jt (λb=>v=some b) w w':=
 ⟨g.os,g.tape,g.output,g.size,λk d G=>g.block k d (λe=>G e.symm)⟩
def jt.more {a b c:World} (h:jt S a b) (m:ql b c):jt S a c:=h.trans ⟨m.os,m.tape,m.output,m.size,λk d _=>m.block k d⟩
def jt.mono {S':Nat->Prop} {a b:World} (h:jt S a b) (H: ∀k,S k->S' k):jt S' a b:=⟨h.os,h.tape,h.output,h.size,λk d G=>h.block k d (λx=>G (H k x))⟩
def jt.blk {a b:World} (h:jt S a b) {k:Nat} {o:Obj} (d:a.heap[k]? =some o) (G: ¬S k):b.heap[k]? =some o:=by rw[h.block k (lt_of_block d) G];exact d
def jt.cells {a b:World} (h:jt S a b) (k o:Nat) (d:k<a.heap.size) (G: ¬S k):b.cell? ⟨k,o,none⟩=a.cell? ⟨k,o,none⟩:=World.cell?_of_block (h.block k d G)
structure qz (S:Nat->Prop) (w:World) where
 w':World
 h:jt S w w'
instance (S:Nat->Prop) (w:World):Inhabited (qz S w):=⟨⟨w,jt.refl S w⟩⟩
def qz.cell (x:qz S w) {o:Nat} (d:b<w.heap.size) (G: ¬S b) (h:w.cell? ⟨b,o,none⟩=some v):x.w'.cell? ⟨b,o,none⟩=some v:=by rw[x.h.cells b o d G];exact h
def jt.of_more {a b:World} (h:ql a b):jt S a b:=⟨h.os,h.tape,h.output,h.size,λi hi _=>h.block i hi⟩
structure qt (w:World) where
 w':World
 h:ql w w'
variable {x:qt d}
instance (w:World):Inhabited (qt w):=⟨⟨w,ql.refl w⟩⟩
def qt.cell (x:qt w) {o:Nat} (d:b<w.heap.size) (h:w.cell? ⟨b,o,none⟩=some v):x.w'.cell? ⟨b,o,none⟩=some v:=by rw[x.h.cells b o d];exact h
def qt.new (x:qt (w.alloc (.cells cs t))) (o:Nat) (h:cs[o]? =some v):x.w'.cell? ⟨w.heap.size,o,none⟩=some v:=by
 rw[x.h.cells _ _ (by show w.heap.size<(w.heap.push _).size;simp)];rw[cell_of_row _ w.heap.size o cs t (0,0) (heap_alloc_new w _)];exact h
def qD {id:Nat} (d:World) (G:ql d w) (I:P.follows .mixedOrders=true) (H:Region.lexB .any l.toArray=true)
  (h:wpQuiet P l.toArray (λw'=> ∃x:qt d,w'=x.w') (λa'=> ∀w',(∃x:qt d,w'=x.w')->Q .normal a' w') l a):(Code.region id l.toArray true).wp P Q a w:=
 wp_region_quiet (C:=λw'=> ∃x:qt d,w'=x.w') I H ⟨⟨_,G.trans (ql.drewN w 1)⟩,rfl⟩ (by simpa using h)
def j6 (h:Calls P f args x.w' λe w'=>e= .returned v/\ql x.w' w'):
  Calls P f args x.w' λe w''=>e= .returned v/\ ∃y:qt d,w''=y.w':=
 h.mono λ_ _ ⟨G,H⟩=>⟨G,⟨_,x.h.trans H⟩,rfl⟩
def kB (h:Calls P f args x.w' λe w'=>e= .returned v/\w'=x.w'):
  Calls P f args x.w' λe w''=>e= .returned v/\ ∃y:qt d,w''=y.w':=
 j6 (h.mono λ_ _ ⟨G,H⟩=>⟨G,by rw[H];exact ql.refl _⟩)
def zC {id:Nat} (d:World) (T:Nat) (n:List (Nat×Bool)) (H:P.follows .mixedOrders=true)
  (G:(Region.noSelect l.toArray&&JG .any l.toArray T n (Array.replicate l.length false)&&decide (n.length=l.length)&&n.all λx=>decide (x.1<l.length))=true)
  (h:zU P l T (λw'=> ∃x:qt d,w'=x.w') (Q .normal) n a (w.drewN 1)):(Code.region id l.toArray true).wp P Q a w:=
 wD (C:=λw'=> ∃x:qt d,w'=x.w') T n H G h
def zp {id:Nat} (S:Nat->Prop) (d:World) (T:Nat) (n:List (Nat×Bool)) (H:P.follows .mixedOrders=true)
  (G:(Region.noSelect l.toArray&&JG .any l.toArray T n (Array.replicate l.length false)&&decide (n.length=l.length)&&n.all λx=>decide (x.1<l.length))=true)
  (h:zU P l T (λw'=> ∃x:qz S d,w'=x.w') (Q .normal) n a (w.drewN 1)):(Code.region id l.toArray true).wp P Q a w:=
 wD (C:=λw'=> ∃x:qz S d,w'=x.w') T n H G h
def qi (h:jt S d w'): ∃x:qz S d,w'=x.w':=⟨⟨w',h⟩,rfl⟩
def qk (h:ql d w'): ∃x:qt d,w'=x.w':=⟨⟨w',h⟩,rfl⟩
def qa (h:w.heap[b]? =some (.cells cs t (0,0))) (i:Nat) (hi:cs[i]? =some v):w.cell? ⟨b,i,none⟩=some v:=by
 rw[cell_of_row w b i cs t (0,0) h];exact hi
def yw (h:w.heap[b]? =some (.cells cs t (0,0))) (i:Nat):w.frozen? ⟨b,i,none⟩=false:=frozen_of_row w b i cs t h
def qn {o:Obj} (h:w.heap[b]? =some o):b<w.heap.size:=lt_of_block h
def qq {o:Obj} (m:ql w w') (h:w.heap[b]? =some o):w'.heap[b]? =some o:=by rw[m.block b (lt_of_block h)];exact h
def qp (h:w.heap[b]? =some (.cells cs t (0,0))) (i:Nat) (v:Value):(w.setCell ⟨b,i,none⟩ v).heap[b]? =some (.cells (cs.setIfInBounds i v) t (0,0)):=
 heap_setCell_same w b i cs t v h
def qo {o:Obj} (h:w.heap[b]? =some o) (a:Addr) (v:Value) (d:b≠a.block):(w.setCell a v).heap[b]? =some o:=by
 rw[Below.heap_setCell _ _ _ _ d];exact h
def qj (w:World) (o:Obj):(w.alloc o).heap[w.heap.size]? =some o:=heap_alloc_new w o
def qC {o:Obj} {n:Nat} (h:n=w.heap.size):(w.alloc o).heap[n]? =some o:=by subst h;exact heap_alloc_new w o
def qB {cs':Array Value} (h:w.heap[b]? =some (.cells cs t (0,0))) (e:cs=cs'):w.heap[b]? =some (.cells cs' t (0,0)):=by rw[<-e];exact h
def qb {o:Obj} (h:w.heap[b]? =some o) (k:Nat):(w.drewN k).heap[b]? =some o:=h
def qs {o:Obj} (h:w.heap[b]? =some o) (d:Obj):(w.alloc d).heap[b]? =some o:=qq (ql.alloc w d) h
def ql.new (h:ql (w.alloc (.cells cs t)) w') (o:Nat) (d:cs[o]? =some v):w'.cell? ⟨w.heap.size,o,none⟩=some v:=
 (⟨w',h⟩:qt (w.alloc (.cells cs t))).new o d
end Go.Proofs.YtmgaiiffmheabaaGreatDoor
