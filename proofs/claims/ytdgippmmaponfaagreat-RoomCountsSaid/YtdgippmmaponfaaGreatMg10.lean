/- Contracts of the functions that the law reaches, and plain laws; no conditions but those written at each. -/
import Derived.Test.YtdgippmmaponfaaGreatMg2
import Derived.Deep.Cut
import Derived.Deep.CutRange
import Derived.Deep.CutBlock
import Derived.WalkMore
import Derived.ScopeJumps
namespace Go.Proofs.YtdgippmmaponfaaGreat
open Go.Value renaming bool->μ,slice->δ,pointer->π,agg->θ
open Go.IntKind renaming i64->ι,u8->υ,u16->φ,u32->ω,i32->χ,u64->ψ
open _root_.Go.Proofs.Tryz
set_option linter.unusedSimpArgs false
set_option maxHeartbeats 8000000
set_option linter.unusedVariables false
open Go.RowKit
set_option maxRecDepth 100000
abbrev qQ:=Int×Int×List Int×Unit
def yH:qL qQ:=zf 1 (yW .u8) (zf 1 (yW .u8) (zf 1 (RSl 1 (yW .u8)) Gp))
def xu:qQ:=(0,0,[],())
structure xk (c:qQ):Prop where
 n:0<=c.1/\c.1<=255
 t:0<=c.2.1/\c.2.1<=255
 byt:Byt c.2.2.1
theorem DH {n:Int} (h:0<=n/\n<=255):(Lit.int .u8 n).wf=true:=by
 simp[Lit.wf,IntKind.min,IntKind.max,IntKind.signed,IntKind.bits];omega
theorem IW {l:List Int} (h:Byt l): ∀n∈l,(Lit.int .u8 n).wf=true:=by
 intro n d;obtain⟨i,hi,rfl⟩:=List.mem_iff_getElem.1 d;have:=h i;rw[List.getD_eq_getElem?_getD,List.getElem?_eq_getElem hi,Option.getD_some] at this;exact DH this
theorem Co {w:World} {cs:List Value} {c:qQ} (h:yH w cs c) (J:cs.length=3): ∃vb,cs=[υ c.1,υ c.2.1,vb]/\SlI .u8 w vb c.2.2.1/\xk c:=by
 match cs,J with
 | [k0,k1,k2],_=>
  obtain⟨⟨H,I⟩,⟨d,M⟩,⟨vb,G,s2⟩,_⟩:=h;simp at H d G;subst H d G;exact⟨k2,rfl,s2.ints.1,⟨bounds_u8 I,bounds_u8 M,Byt.of_wf s2.ints.2⟩⟩
theorem VU {w:World} {vb:Value} {c:qQ} (s:SlI .u8 w vb c.2.2.1) (h:xk c):yH w [υ c.1,υ c.2.1,vb] c:=
 ⟨⟨rfl,DH h.n⟩,⟨rfl,DH h.t⟩,⟨vb,rfl,SlP.of_ints s (IW h.byt)⟩,rfl⟩
structure JE (w:World) (b off i:Nat) (c:qQ) (vb:Value):Prop where
 c0:w.cell? ⟨b,off+i* 3,none⟩=some (.int .u8 c.1)
 c1:w.cell? ⟨b,off+i* 3+1,none⟩=some (.int .u8 c.2.1)
 c2:w.cell? ⟨b,off+i* 3+2,none⟩=some vb
 sl:SlI .u8 w vb c.2.2.1
 ok:xk c
theorem JE.more {w w':World} {b G i:Nat} {t:qQ} {vb:Value} (h:JE w b G i t vb) (m:qa w w') (d:b<w.heap.size):JE w' b G i t vb:=by
 obtain⟨I,M,N,H,J⟩:=h;exact⟨by rw[m.cells b _ d];exact I,by rw[m.cells b _ d];exact M,by rw[m.cells b _ d];exact N,H.keep m,J⟩
theorem Ae {w:World} {v:Value} {l:List qQ} (h:SlP 3 yH w v l): ∃G cap,v= δ G l.length cap/\(l.length:Int)<=9223372036854775807/\ ∀i,i<l.length-> ∃b d vb,G=some ⟨b,d,none⟩/\b<w.heap.size/\JE w b d i (l.getD i xu) vb:=by
 obtain⟨G,cap,M,ad,N,_⟩:=h;refine⟨G,cap,M,ad,λi hi=> ?_⟩;obtain⟨b,d,cs,e,Y,U,H,ab⟩:=N i hi;have e0:=H 0 τ;have J:=H 1 τ;have I:=H 2 τ;have O:l.getD i xu=l[i]:=by simp[hi]
 rw[O];obtain⟨vb,rfl,ac,aa⟩:=Co ab U;simp at e0 J I;exact⟨b,d,vb,e,Y,e0,J,I,ac,aa⟩
def jx (c:qQ):Bool:=decide (c.1<=31/\c.2.2.1.length%4=0/\c.2.2.1.length<=196)
theorem xR {w:World} {vb:Value} (c:qQ) (M:SlI .u8 w vb c.2.2.1) (O:c.2.2.1.length<=1000000):
  Calls prog 203 #[θ #[υ c.1,υ c.2.1,vb]] w λe w'=>e= .returned (μ (jx c))/\qa w w':=by
 obtain⟨k,n,b,⟨⟩⟩:=c;simp only at *;obtain⟨J,N,rfl,_⟩:=M;have H:=qa.alloc w (.cells #[υ k,υ n,δ J b.length N] 254);by_cases h1:k<=31
 ·by_cases h2:b.length%4=0
  ·by_cases h3:b.length<=196
   ·have d:jx (k,n,b,())=true:=by unfold jx;simp[h1,h2,h3]
    have G:=κ d;clear d;have I:((b.length:Int)).tmod 4=0:=by rw[Int.tmod_eq_emod_of_nonneg τ];omega
    go_enter func203,ntmps203
    go_wp2
    all_goals (go_ret;exact⟨by rw[G.o];first | rfl | exact qZ (decide_eq_true τ) | exact qZ (decide_eq_false τ),H⟩)
   ·have d:jx (k,n,b,())=false:=by unfold jx;simp[h3]
    have G:=κ d;clear d;have I:((b.length:Int)).tmod 4=0:=by rw[Int.tmod_eq_emod_of_nonneg τ];omega
    go_enter func203,ntmps203
    go_wp2
    all_goals (go_ret;exact⟨by rw[G.o];first | rfl | exact qZ (decide_eq_true τ) | exact qZ (decide_eq_false τ),H⟩)
  ·have d:jx (k,n,b,())=false:=by unfold jx;simp[h2]
   have G:=κ d;clear d;have I: ¬((b.length:Int)).tmod 4=0:=by rw[Int.tmod_eq_emod_of_nonneg τ];omega
   go_enter func203,ntmps203
   go_wp2
   all_goals (go_ret;exact⟨by rw[G.o];first | rfl | exact qZ (decide_eq_true τ) | exact qZ (decide_eq_false τ),H⟩)
 ·have d:jx (k,n,b,())=false:=by unfold jx;simp[h1]
  have G:=κ d;clear d
  go_enter func203,ntmps203
  go_wp2
  all_goals (go_ret;exact⟨by rw[G.o];first | rfl | exact qZ (decide_eq_true τ) | exact qZ (decide_eq_false τ),H⟩)
theorem zS {w:World} {cs:Array Value} {t B:Nat} (d:B=w.heap.size): ∀j u,cs.toList[j]? =some u->(w.alloc (.cells cs t)).cell? ⟨B,j,none⟩=some u:=by
 intro j u h;subst d;exact qb (qj w _) j (by simpa using h)
theorem kv {α:Type} (l:List α) (j:Nat) (d:α) (h:j<l.length):l.take (j+1)=l.take j++[l.getD j d]:=by
 rw[List.take_add_one,List.getElem?_eq_getElem h];simp[h]
def chB (c:qQ):List Int:=qy (128+c.1) 1++(qy c.2.1 1++(qy ((c.2.2.1.length:Int)/4) 2++c.2.2.1))
def flC (l:List qQ):List Int:=l.flatMap chB
def szC (l:List qQ):Nat:=(l.map λc=>4+c.2.2.1.length).sum
theorem YJ (c:qQ):(chB c).length=4+c.2.2.1.length:=by
 unfold chB;simp[qK];omega
theorem YH (l:List qQ):(flC l).length=szC l:=by
 induction l with
 | nil=>rfl
 | cons c l ih=>
  have e:flC (c::l)=chB c++flC l:=rfl;have d:szC (c::l)=4+c.2.2.1.length+szC l:=by simp[szC]
  rw[e,d,List.length_append,YJ,ih]
theorem Ck (l:List qQ) (j:Nat) (h:j<l.length):flC (l.take (j+1))=flC (l.take j)++chB (l.getD j xu):=by
 unfold flC;rw[kv l j xu h,List.flatMap_append];simp
theorem JZ (l:List qQ) (j:Nat) (h:j<l.length):szC (l.take (j+1))=szC (l.take j)+(4+(l.getD j xu).2.2.1.length):=by
 unfold szC;rw[kv l j xu h,List.map_append,List.sum_append];simp
theorem DX (l:List qQ) (j:Nat):szC (l.take j)<=szC l:=by
 conv=>rhs;rw[<-List.take_append_drop j l]
 unfold szC;rw[List.map_append,List.sum_append];omega
def vW (l:List qQ):List Int×Int:=if l.all jx=false then ([],1) else if 200<szC l then ([],4) else (flC l,0)
theorem zO (c:qQ):jx c=true↔c.1<=31/\c.2.2.1.length%4=0/\c.2.2.1.length<=196:=by unfold jx;simp
theorem PA {l:List qQ} {i:Nat} (hi:i<l.length) (h:jx (l.getD i xu)=false):vW l=([],1):=by
 unfold vW;rw[if_pos];rw[List.all_eq_false];exact⟨l.getD i xu,by simp[hi],by rw[h];simp⟩
theorem PB {l:List qQ} (h: ∀i,i<l.length->jx (l.getD i xu)=true):l.all jx=true:=by
 rw[List.all_eq_true];intro c d;obtain⟨i,hi,rfl⟩:=List.mem_iff_getElem.1 d;have:=h i hi
 simpa [hi] using this
theorem Dy (v:Value) (l:List qQ) (w:World) (sl:SlP 3 yH w v l) (bm:l.length<=100000) (ac: ∀i,i<l.length->(l.getD i xu).2.2.1.length<=1000000):
  Calls prog 159 #[v] w λe w'=> ∃vx,e= .returned (.tuple #[vx,ι (vW l).2])/\SlI .u8 w' vx (vW l).1/\qa w w'/\ ∀b,vx.ownBlock=some b->w.heap.size<=b:=by
 obtain⟨bf,cap,rfl,bg,O⟩:=Ae sl;clear sl
 go_enter func159,ntmps159
 go_wp2
 go_loopw [4,12] (λs i wr=> ∃j:Nat,j<=l.length/\i= ι j/\s= ι (szC (l.take j):Nat)/\szC (l.take j)<=200* j/\(∀i,i<j->jx (l.getD i xu)=true)/\qa w wr) (λ_ i _=>l.length-(intOf i).toNat)
 case atStart=>exact⟨0,τ,rfl,rfl,by simp[szC],λi hi=>by omega,qa.refl _⟩
 case round=>
  obtain⟨j,G,rfl,rfl,ak,N,d⟩:=hrel;by_cases hlt:j<l.length
  ·obtain⟨b,aN,vb,rfl,H,M⟩:=O j hlt;have be:=κ M;obtain⟨aM,c1,c2,U,aC⟩:=M.more d H;have aQ:(j:Int)<(l.length:Int):=by omega
   have aI:=κ (U.keep (qa.alloc wr (.cells #[υ (l.getD j xu).1,υ (l.getD j xu).2.1,vb] 254)));obtain⟨ay,az,rfl,_⟩:=U;have Y:=κ (JZ l j hlt);have ao:=ac j hlt;have J:=κ (λh=>PA (l:=l) hlt h);have aj:=κ N
   have aO:Hid (∀b,jx (l.getD j xu)=b->b=true->(l.getD j xu).2.2.1.length<=196/\ ∀i,i<j+1->jx (l.getD i xu)=true):=κ (λb e h=>by
    subst e;refine⟨((zO _).1 h).2.2,λi hi=> ?_⟩;by_cases e:i<j
    ·exact aj.o i e
    ·obtain rfl:i=j:=by omega
     exact h)
   clear O M N ac;generalize aR:l.getD j xu=c at *;clear aR;generalize szC (l.take j)=z at *;cases I:jx c with
   | true=>
    obtain⟨bn,aF⟩:=aO.o true I rfl;have aS:=κ aF;clear aF
    go_wp2_with (go_at_call 203;refine(xR c aI.o ao).mono ?_;rintro e w6 ⟨rfl,aa⟩;rw[I];have ai:=(d.al _).trans aa;have bo:=β2 (qc aa (qj wr _)))
    go_roundw
    case rel=>exact⟨j+1,τ,by go_num,by rw[Y.o];go_num,by rw[Y.o];omega,aS.o,ai⟩
    case measure=>simp[intOf];omega
   | false=>
    have G:=J.o I
    go_wp2_with (go_at_call 203;refine(xR c aI.o ao).mono ?_;rintro e w6 ⟨rfl,aa⟩;rw[I];have ai:=(d.al _).trans aa)
    refine bodyPost_ret (v:= .tuple #[δ none 0 0,ι 1]) (by simp[results,results159,go_sem]) rfl ?_;exact⟨_,by rw[G],by rw[G];exact SlI.nil _ _,ai,λb H=>by cases H⟩
  ·obtain rfl:j=l.length:=by omega
   rw[List.take_length] at *;have aq:=PB N;by_cases h200:200<szC l
   ·have G:vW l=([],4):=by unfold vW;rw[if_neg (by rw[aq];simp),if_pos h200]
    have J:=κ G;have aW:(200:Int)<(szC l:Int):=by omega
    clear G O ac N;go_wp2;refine bodyPost_ret (v:= .tuple #[δ none 0 0,ι 4]) (by simp[results,results159,go_sem]) rfl ?_;exact⟨_,by rw[J.o],by rw[J.o];exact SlI.nil _ _,d,λb H=>by cases H⟩
   ·have G:vW l=(flC l,0):=by unfold vW;rw[if_neg (by rw[aq];simp),if_neg h200]
    have J:=κ G;have aW: ¬(200:Int)<(szC l:Int):=by omega
    have aj:=κ N;clear G ac N;go_wp2;have aY:=wR wr;have aZ:=d.al (.cells #[δ none 0 0] 131);have aU:=d.size;generalize bu:wr.heap.size=W at *
    go_loopw [30] (λi wr=> ∃j:Nat,j<=l.length/\i= ι j/\(∃v,j5 wr W v (flC (l.take j)))/\qa w wr) (λi _=>l.length-(intOf i).toNat)
    case atStart=>exact⟨0,τ,rfl,⟨_,aY⟩,aZ⟩
    case round=>
     obtain⟨j,G,rfl,⟨v,I⟩,d⟩:=hrel;by_cases hlt:j<l.length
     ·obtain⟨b,aN,vb,rfl,H,M⟩:=O j hlt;obtain⟨aM,c1,c2,U,aC⟩:=M.more d H;have aQ:(j:Int)<(l.length:Int):=by omega
      have au:=Ck l j hlt;have ak:(flC (l.take j)).length<=200:=by rw[YH];have:=DX l j;omega
      have aE:=(zO _).1 (aj.o j hlt);have aD:=κ au;have Y:=κ U;have aK:=κ M.sl;obtain⟨ay,az,rfl,_⟩:=U;clear O M au;generalize l.getD j xu=c at *;obtain⟨k,n,q,⟨⟩⟩:=c;simp only at aM c1 c2 aE;generalize flC (l.take j)=acc at *;obtain⟨⟨ba,br⟩,⟨bc,bb⟩,bp⟩:=aC;obtain⟨bq,bt,bk⟩:=aE;change 0<=k at ba;change 0<=n at bc;change n<=255 at bb;change Hid (SlI .u8 wr _ q) at Y;change Hid (SlI .u8 w _ q) at aK;change Hid (_=acc++chB (k,n,q,())) at aD;have ax:0<=128+k/\128+k<=255:=by omega
      have an:0<=n/\n<=255:=by omega
      have aL:0<=(q.length:Int)/4/\(q.length:Int)/4<=65535:=by omega
      have aH:(acc++qy (128+k) 1).length<=1000000:=by rw[List.length_append,qK _ _ ζ];omega
      have ap:(acc++qy (128+k) 1++qy n 1).length<=1000000:=by rw[List.length_append,List.length_append,qK _ _ ζ,qK _ _ ζ];omega
      have aA:(acc++qy (128+k) 1++qy n 1++qy ((q.length:Int)/4) 2).length+q.length<=10000000:=by rw[List.length_append,List.length_append,List.length_append,qK _ _ ζ,qK _ _ ζ,qK _ _ ζ];omega
      have bh:((q.length:Int)).tdiv 4=(q.length:Int)/4:=Int.tdiv_eq_ediv_of_nonneg τ;have ad:=κ (And.intro aH (And.intro ap aA));have af:=κ (And.intro ax (And.intro an aL));clear aH ap aA ax an aL;have aw:=κ (WrK.new (.cells #[υ k,υ n,δ ay q.length az] 254) I d aU);have aJ:acc++qy (128+k) 1++qy n 1++qy ((q.length:Int)/4) 2++q=acc++chB (k,n,q,()):=by unfold chB;simp only[List.append_assoc]
      have aP:=κ aJ;clear aJ
      go_wp2_with first | (go_at_call 48;((with_reducible refine(wk aw.o.wr (128+k) af.o.1 τ).mono ?_);rintro e w6 ⟨rfl,aG⟩;obtain⟨v6,ag⟩:=aw.o.wrote aG;have bj:=β1 ag.keep;clear aG)) | (go_at_call 48;((with_reducible refine(wk ag.wr n af.o.2.1 ad.o.1).mono ?_);rintro e bi ⟨rfl,av⟩;obtain⟨v7,ae⟩:=ag.wrote av;have bs:=β2 ae.keep;clear av)) | (go_at_call 49;(go_call kU ae.wr ((q.length:Int)/4) af.o.2.2 ad.o.2.1 as e w8 ⟨rfl,am⟩;obtain⟨v8,ab⟩:=ae.wrote am;have bl:=β2 ab.keep;have aT:=aK.o.keep ab.more;clear am)) | (go_at_call 51;(go_call uU ab.wr _ _ aT ad.o.2.2 as e w9 ⟨rfl,ar⟩;obtain⟨v9,aB⟩:=ab.wrote ar;clear ar))
      go_roundw
      case rel=>exact⟨j+1,τ,by go_num,⟨v9,by rw[aD.o,<-aP.o];exact aB.wr⟩,aB.more⟩
      case measure=>simp[intOf];omega
     ·obtain rfl:j=l.length:=by omega
      rw[List.take_length] at I;have ak:(flC l).length<=200:=by rw[YH];omega
      clear O
      go_wp2_with (go_at_call 52;refine(wZ I τ).mono ?_;rintro e w6 ⟨v6,rfl,ah,aV⟩;have aX:=κ (SlI.of_owns ah τ);have bd:=κ (λ(b:Nat) (H:v6.ownBlock=some b)=>Nat.le_trans d.size (jG ah H));clear ah)
      refine bodyPost_ret (v:= .tuple #[v6,ι 0]) (by simp[results,results159,go_sem]) rfl ?_;exact⟨_,by rw[J.o],by rw[J.o];exact aX.o,d.trans aV,bd.o⟩
def xg (b:List Int):List Int×Bool:=
 if b=[] then ([],false) else
  let n:=b.getD (b.length-1) 0
  if n=0∨ ¬n%4=0∨(b.length:Int)<n then ([],false) else (b.take (b.length-n.toNat),true)
theorem Dn {w:World} {v:Value} {b:List Int} (J:SlI .u8 w v b) (U:Byt b):
  Calls prog 258 #[v] w λe w'=>(∃v',e= .returned (.tuple #[v',μ (xg b).2])/\SlI .u8 w v' (xg b).1/\ ∀g,v'.ownBlock=some g->v.ownBlock=some g)/\w'=w:=by
 have M:=κ J;obtain⟨af,cap,rfl,aj,Y,an,ae,N⟩:=J;by_cases hn:b=[]
 ·subst hn;have G:xg []=([],false):=rfl;have d:=κ G;clear G M N
  go_enter func258,ntmps258
  go_wp2;refine bodyPost_ret (v:= .tuple #[δ none 0 0,false]) (by simp[results,results258,go_sem]) rfl ?_;exact⟨⟨_,rfl,SlI.nil _ _,λg h=>by cases h⟩,rfl⟩
 ·have al:0<b.length:=List.length_pos_iff.2 hn;obtain⟨O,H,rfl,ad,ag⟩:=Y (b.length-1) τ;have aa:=U (b.length-1);have ap:((b.length:Int)-1)=((b.length-1:Nat):Int):=by omega
  have ah:((b.length:Int)-1).toNat=b.length-1:=by omega
  have I: ∀n,b.getD (b.length-1) 0=n->xg b=if n=0∨ ¬n%4=0∨(b.length:Int)<n then ([],false) else (b.take (b.length-n.toNat),true):=λn e=>by
   unfold xg;rw[if_neg hn];simp only[e]
  have d:=κ (I _ rfl);clear I Y U N hn;generalize b.getD (b.length-1) 0=n at *;obtain⟨ab,am⟩:=aa;have aq:n.tmod 4=n%4:=Int.tmod_eq_emod_of_nonneg ab;have ac:n=0∨(¬n=0/\ ¬n%4=0)∨(¬n=0/\n%4=0/\(b.length:Int)<n)∨(¬n=0/\n%4=0/\ ¬(b.length:Int)<n):=by omega
  rcases ac with h | ⟨h,h'⟩ | ⟨h,h',h''⟩ | ⟨h,h',h''⟩
  ·have G:xg b=([],false):=by rw[d.o,if_pos (Or.inl h)]
   clear d;have d:=κ G;clear G;subst h
   go_enter func258,ntmps258
   go_wp2;refine bodyPost_ret (v:= .tuple #[δ none 0 0,false]) (by simp[results,results258,go_sem]) rfl ?_;exact⟨⟨δ none 0 0,by rw[d.o],by rw[d.o];exact SlI.nil _ _,λg h=>by cases h⟩,rfl⟩
  ·have G:xg b=([],false):=by rw[d.o,if_pos (Or.inr (Or.inl h'))]
   clear d;have d:=κ G;clear G
   go_enter func258,ntmps258
   go_wp2;refine bodyPost_ret (v:= .tuple #[δ none 0 0,false]) (by simp[results,results258,go_sem]) rfl ?_;exact⟨⟨δ none 0 0,by rw[d.o],by rw[d.o];exact SlI.nil _ _,λg h=>by cases h⟩,rfl⟩
  ·have G:xg b=([],false):=by rw[d.o,if_pos (Or.inr (Or.inr h''))]
   clear d;have d:=κ G;clear G
   go_enter func258,ntmps258
   go_wp2;refine bodyPost_ret (v:= .tuple #[δ none 0 0,false]) (by simp[results,results258,go_sem]) rfl ?_;exact⟨⟨δ none 0 0,by rw[d.o],by rw[d.o];exact SlI.nil _ _,λg h=>by cases h⟩,rfl⟩
  ·have G:xg b=(b.take (b.length-n.toNat),true):=by rw[d.o,if_neg τ]
   clear d;have d:=κ G;clear G;obtain⟨m,rfl⟩: ∃m:Nat,n=m:=⟨n.toNat,τ⟩;have ak:(0:Int)<=(b.length:Int)-(m:Int):=by omega
   have ai:(b.length:Int)-(m:Int)<=(cap:Int):=by omega
   have ao:((b.length:Int)-(m:Int)).toNat=b.length-m:=by omega
   go_enter func258,ntmps258
   go_wp2;refine bodyPost_ret (v:= .tuple #[δ (some ⟨O,H,none⟩) (b.length-m) cap,true]) (by simp[results,results258,go_sem]) rfl ?_;exact⟨⟨δ (some ⟨O,H,none⟩) (b.length-m) cap,by rw[d.o],by rw[d.o];exact M.o.take _ τ,λg h=>h⟩,rfl⟩
theorem Aj: ∀m:Fin 256,bits .and .u8 (m.val:Int) 31=(m.val:Int)%32/\bits .and .u8 (m.val:Int) 32=if (m.val:Int)%64<32 then 0 else 32:=of_decide_eq_true ξ
theorem Mr {n:Int} (h:0<=n/\n<=255):bits .and .u8 n 31=n%32:=by
 obtain⟨m,rfl⟩:=Int.eq_ofNat_of_zero_le h.1;exact(Aj ⟨m,τ⟩).1
theorem Mq {n:Int} (h:0<=n/\n<=255):(bits .and .u8 n 32 != 0)= !decide (n%64<32):=by
 obtain⟨m,rfl⟩:=Int.eq_ofNat_of_zero_le h.1;rw[(Aj ⟨m,τ⟩).2];simp only;by_cases e:(m:Int)%64<32
 ·rw[if_pos e];simp[e]
 ·rw[if_neg e];simp;omega
def ze (s:RdS):(Int×Int×Int)×RdS:=((num (tkB s.1 1),num (tkB (tkS s 1).1 1),num (tkB (tkS (tkS s 1) 1).1 2)),tkS (tkS (tkS s 1) 1) 2)
def ua (f:Int) (s:RdS):RdS:=if f<128∨191<f then wrS s 2 else s
def vG (f t n:Int) (s:RdS):qQ×RdS:=
 if f%64<32 then ((f%32,t,tkB s.1 (4* n),()),tkS s (4* n))
 else ((f%32,t,(xg (tkB s.1 (4* n))).1,()),if (xg (tkB s.1 (4* n))).2=false∨ ¬(tkS s (4* n)).1=[] then wrS (tkS s (4* n)) 2 else tkS s (4* n))
def qP (s:RdS):qQ×RdS:=
 vG (ze s).1.1 (ze s).1.2.1 (ze s).1.2.2 (ua (ze s).1.1 (ze s).2)
structure RdK (w0 w:World) (R:Nat) (l:List Int) (e:Int) (B:Nat) (o:Obj) (C:Nat->Prop):Prop where
 rd:qu w R l e C
 away:qg (λb=>b=R) w0 w
 keep:w.heap[B]? =some o
 ne: ¬B=R
theorem RdK.new {w:World} {R:Nat} {l:List Int} {e:Int} {C:Nat->Prop} (o:Obj) (h:qu w R l e C):RdK w (w.alloc o) R l e w.heap.size o C:=
 ⟨h.more (qa.alloc w o),qg.of_more (qa.alloc w o),qj w o,λe=>by obtain⟨v,d,_⟩:=h.blk;have:=qn d;omega⟩
theorem RdK.step {d w w':World} {R:Nat} {l l':List Int} {e G:Int} {B:Nat} {o:Obj} {C:Nat->Prop} (h:RdK d w R l e B o C) (r:qu w' R l' G C) (a:qg (λb=>b=R) w w'):RdK d w' R l' G B o C:=
 ⟨r,h.away.trans a,a.blk h.keep h.ne,h.ne⟩
theorem Uj {b:List Int} (h:Byt b):Byt (xg b).1:=by
 unfold xg;split
 ·exact xh
 ·simp only;split
  ·exact xh
  ·exact h.take _
theorem Wf {w:World} {R:Nat} {s:RdS} {C:Nat->Prop} (h:qu w R s.1 s.2 C):
  Calls prog 240 #[γ R] w λe w'=>(∃vb,e= .returned (θ #[υ (qP s).1.1,υ (qP s).1.2.1,vb])/\SlI .u8 w' vb (qP s).1.2.2.1/\xk (qP s).1/\ ∀g,vb.ownBlock=some g->w.heap.size<=g)/\qu w' R (qP s).2.1 (qP s).2.2 C/\qg (λb=>b=R) w w':=by
 have bU:R<w.heap.size:=by obtain⟨v,ad,_⟩:=h.blk;exact qn ad
 have ag:=RdK.new (.cells #[υ 0,υ 0,()] 254) h.old;have aT:=jL h.byt 1;have aG:=zh s.1 1 ζ;have au:=zv _ 1 aT aG ζ;have aL:qP s=vG (ze s).1.1 (ze s).1.2.1 (ze s).1.2.2 (ua (ze s).1.1 (ze s).2):=rfl;have af:=κ aL;clear aL;obtain⟨L,E⟩:=s;simp only at h ag;have aZ:Byt (tkL L 1):=h.byt.drop _;have bC:Byt (tkL (tkL L 1) 1):=aZ.drop _;have bj:=zv _ 1 (jL aZ 1) (zh (tkL L 1) 1 ζ) ζ;have bg:=zv _ 2 (jL bC 2) (zh (tkL (tkL L 1) 1) 2 ζ) ζ;have bh:ze (L,E)=((num (tkB L 1),num (tkB (tkL L 1) 1),num (tkB (tkL (tkL L 1) 1) 2)),(tkL (tkL (tkL L 1) 1) 2,tkE (tkL (tkL L 1) 1) 2 (tkE (tkL L 1) 1 (tkE L 1 E)))):=rfl;rw[bh] at af;simp only at af au;clear bh aT aG;generalize bd:num (tkB L 1)=f at *;generalize bo:num (tkB (tkL L 1) 1)=t at *;generalize aQ:num (tkB (tkL (tkL L 1) 1) 2)=n at *;generalize bc:tkL (tkL (tkL L 1) 1) 2=L3 at *;generalize aV:tkE (tkL (tkL L 1) 1) 2 (tkE (tkL L 1) 1 (tkE L 1 E))=E3 at *;have aJ:0<=f/\f<=255:=by have:=au;simp at this;omega
 have bG:0<=t/\t<=255:=by have:=bj;simp at this;omega
 have bR:0<=n/\n<=65535:=by have:=bg;simp at this;omega
 have bL:=Mr aJ;have bt:=Mq aJ;clear au bj bg
 have bD:Hid (∀N vb q (G:RdS),RdK w N R G.1 G.2 w.heap.size (.cells #[υ 0,υ 0,()] 254) (λg=>C g/\g<w.heap.size)->qP (L,E)=((f%32,t,q,()),G)->SlI .u8 N vb q->Byt q->(∀g,vb.ownBlock=some g->w.heap.size+1<=g)->(∃vb',Ending.returned (θ #[υ (f%32),υ t,vb])= .returned (θ #[υ (qP (L,E)).1.1,υ (qP (L,E)).1.2.1,vb'])/\SlI .u8 (((N.setCell ⟨w.heap.size,0,none⟩ (υ (f%32))).setCell ⟨w.heap.size,1,none⟩ (υ t)).setCell ⟨w.heap.size,2,none⟩ vb) vb' (qP (L,E)).1.2.2.1/\xk (qP (L,E)).1/\ ∀g,vb'.ownBlock=some g->w.heap.size<=g)/\qu (((N.setCell ⟨w.heap.size,0,none⟩ (υ (f%32))).setCell ⟨w.heap.size,1,none⟩ (υ t)).setCell ⟨w.heap.size,2,none⟩ vb) R (qP (L,E)).2.1 (qP (L,E)).2.2 C/\qg (λb=>b=R) w (((N.setCell ⟨w.heap.size,0,none⟩ (υ (f%32))).setCell ⟨w.heap.size,1,none⟩ (υ t)).setCell ⟨w.heap.size,2,none⟩ vb)):=κ (by
  intro N vb q G X bx bI ah aM;have O:qg (λb=>b=w.heap.size) N (((N.setCell ⟨w.heap.size,0,none⟩ (υ (f%32))).setCell ⟨w.heap.size,1,none⟩ (υ t)).setCell ⟨w.heap.size,2,none⟩ vb):=(((qg.refl (λb=>b=w.heap.size) N).set (p:=⟨w.heap.size,0,none⟩) rfl _).set (p:=⟨w.heap.size,1,none⟩) rfl _).set (p:=⟨w.heap.size,2,none⟩) rfl _;rw[bx];refine⟨⟨vb,rfl,bI.off (λb ap e=>by have:=aM b ap;omega) O,⟨by simp only;omega,bG,ah⟩,λg h=>by have:=aM g h;omega⟩, ?_, ?_⟩
  ·exact(X.rd.off O (λe=>X.ne e.symm) (λg bA e=>by have:=bA.2;omega)).mono λg h=>h.1
  ·exact⟨O.os.trans X.away.os,O.tape.trans X.away.tape,O.output.trans X.away.output,Nat.le_trans X.away.size O.size,λk aI bE=>by rw[O.block k (Nat.lt_of_lt_of_le aI X.away.size) τ];exact X.away.block k aI bE⟩)
 obtain⟨⟨d,M⟩,ak⟩: ∃S4,ua f (L3,E3)=S4:=⟨_,rfl⟩;rw[ak] at af;have an:=κ ak;clear ak
 go_enter func240,ntmps240
 go_upto_region 2 with (first | (go_at_call 54;((with_reducible refine(jT ag.rd).mono ?_);rintro e w6 ⟨rfl,bn,aO⟩;have ao:=ag.step bn aO;rw[bd])) | (go_at_call 54;((with_reducible refine(jT ao.rd).mono ?_);rintro e bN ⟨rfl,bf,ba⟩;have aj:=ao.step bf ba;rw[bo])) | (go_at_call 55;(go_call xn aj.rd as e w8 ⟨rfl,bk,aN⟩;have ar:=aj.step bk aN;rw[aQ];rw[bc,aV] at ar)))
 have ac:=κ ar;clear ag ao aj ar bn bf bk aO ba aN bd bo aQ bc aV h;obtain⟨q,aX⟩:=ν (decide (f<128∨191<f));have U:=κ aX;clear aX
 go_cut [20] from 15 to 51 (λv H=>v= μ q/\w8=H)
 case first=>
  by_cases ad:f<128
  ·go_wp2;go_meet;exact⟨by rw[<-U.o];simp[ad],rfl⟩
  ·by_cases h2:191<f
   ·go_wp2;go_meet;exact⟨by rw[<-U.o];simp[h2],rfl⟩
   ·go_wp2;go_meet;exact⟨by rw[<-U.o];simp[ad,h2],rfl⟩
 case rest=>
 obtain⟨rfl,rfl⟩:=hcut
 go_upto_if 20 with fail
 go_cut [] from 21 to 51 (λH=>RdK w H R d M w.heap.size (.cells #[υ 0,υ 0,()] 254) (λg=>C g/\g<w.heap.size))
 case first=>
  cases q
  ·have ae:Hid ((L3,E3)=(d,M)):=κ (by rw[<-an.o];exact(if_neg (of_decide_eq_false U.o)).symm);go_wp2;go_meet;have x:=ac.o;rw[show L3=d from congrArg Prod.fst ae.o,show E3=M from congrArg Prod.snd ae.o] at x;exact x
  ·have ae:Hid (wrS (L3,E3) 2=(d,M)):=κ (by rw[<-an.o];exact(if_pos (of_decide_eq_true U.o)).symm)
   go_wp2_with ((go_at_call 57;(go_call zo (s:=(L3,E3)) ac.o.rd 2 as e w9 ⟨rfl,bb,a9⟩;have J:=κ (ac.o.step bb a9);clear bb a9)))
   go_meet;have x:=J.o;rw[ae.o] at x;exact x
 case rest=>
 have J:=κ hcut;clear hcut ac an U
 go_upto_region 5 with ((go_at_call 58;(go_call QI (4* n) J.o.rd as e w10 ⟨v10,rfl,ax,aS,be⟩;have Y:=κ (J.o.step aS be);have aq:=κ (SlI.of_owns ax (by have:=Vm d (4* n);have:=J.o.rd.small;omega));have aD:Hid (∀g,v10.ownBlock=some g->w.heap.size+1<=g):=κ (λg h=>Nat.le_trans (Nat.lt_of_lt_of_le (qn J.o.keep) (Nat.le_refl _)) (jG ax h));have am:=κ (jL J.o.rd.byt (4* n));obtain⟨bS,bO,rfl,_⟩:=id aq.o;clear ax aS be)))
 obtain⟨p,az⟩:=ν ((!decide (f%64<32)));rw[az] at bt;have aR:=κ az;clear az J;generalize bl:tkB d (4* n)=B at *;have aH:=κ bl;clear bl
 go_upto_if 30 with fail
 go_cut [6] from 31 to 51 (λv H=> ∃(o:Option Addr) (c:Nat) (q:List Int) (G:RdS),v= δ o q.length c/\SlI .u8 H (δ o q.length c) q/\Byt q/\(∀g,(δ o q.length c).ownBlock=some g->w.heap.size+1<=g)/\RdK w H R G.1 G.2 w.heap.size (.cells #[υ 0,υ 0,()] 254) (λg=>C g/\g<w.heap.size)/\vG f t n (d,M)=((f%32,t,q,()),G))
 case first=>
  cases p
  ·go_wp2;go_meet;exact⟨_,_,_,(tkL d (4* n),tkE d (4* n) M),rfl,aq.o,am.o,aD.o,Y.o,by unfold vG;rw[if_pos (by have:=aR.o;simpa using this),aH.o];rfl⟩
  ·have aB:Hid (vG f t n (d,M)=((f%32,t,(xg B).1,()),if (xg B).2=false∨ ¬tkL d (4* n)=[] then wrS (tkL d (4* n),tkE d (4* n) M) 2 else (tkL d (4* n),tkE d (4* n) M))):=κ (by unfold vG;rw[if_neg (by have:=aR.o;simpa using this),aH.o];rfl);have bH:=κ (Uj (b:=B) am.o);obtain⟨aP,av⟩:=ν ((xg B).2);obtain⟨ab,aA⟩:=ν (tkL d (4* n));obtain⟨aw,ay⟩:=ν (tkE d (4* n) M);obtain⟨z,aC⟩:=ν (decide (aP=false∨ ¬ab=[]));have ai:=κ aC;have aY:=κ (Dn aq.o am.o);rw[av] at aY;rw[aA,ay] at Y;rw[av,aA,ay] at aB;clear av aA ay aC
   go_upto_region 7 with (go_at_call 258;(go_call aY.o as e aW ⟨⟨v11,rfl,bi,bm⟩,rfl⟩;have br:=κ bi;have aU:=κ (λg h=>aD.o g (bm g h));obtain⟨bM,bK,rfl,_⟩:=bi;clear bm))
   go_cut [42] from 36 to 51 (λv H=>v= μ z/\aW=H)
   case first=>
    cases aP
    ·go_wp2;go_meet;exact⟨by rw[<-ai.o];rfl,rfl⟩
    ·go_wp2_with (go_at_call 59;(go_call zn Y.o.rd as e bz ⟨rfl,rfl⟩))
     go_meet;exact⟨by rw[<-ai.o];cases ab<;>simp,rfl⟩
   case rest=>
   obtain⟨rfl,rfl⟩:=hcut
   go_upto_if 42 with fail
   go_cut [] from 43 to 51 (λH=> ∃G:RdS,RdK w H R G.1 G.2 w.heap.size (.cells #[υ 0,υ 0,()] 254) (λg=>C g/\g<w.heap.size)/\(if z then wrS (ab,aw) 2 else (ab,aw))=G/\qg (λb=>b=R) aW H)
   case first=>
    cases z
    ·go_wp2;go_meet;exact⟨_,Y.o,rfl,qg.refl _ _⟩
    ·go_wp2_with ((go_at_call 57;(go_call zo (s:=(ab,aw)) Y.o.rd 2 as e bz ⟨rfl,aF,al⟩;have bF:=κ (Y.o.step aF al);have bs:=κ al;clear aF al)))
     go_meet;exact⟨_,bF.o,rfl,bs.o⟩
   case rest=>
   obtain⟨G,I,aa,a9⟩:=hcut;have J:=κ I;have bp:=κ aa;have bq:=κ a9;clear I aa a9;go_wp2;go_meet;exact⟨_,_,_,G,rfl,br.o.off (λb ap e=>by have:=aU.o b ap;omega) bq.o,bH.o,aU.o,J.o,by rw[aB.o,<-bp.o,<-ai.o];simp⟩
 case rest=>
 obtain⟨bv,bB,bw,G,rfl,aE,ah,aK,I,aa⟩:=hcut;have bJ:=β0 I.keep;have c1:=β1 I.keep;have c2:=β2 I.keep;have bP:=qd I.keep 0;have bT:=qd I.keep 1;have bQ:=qd I.keep 2;have bu:=κ (bD.o _ _ _ _ I (af.o.trans aa) aE ah aK);clear I aa aE ah aK;go_wp2
 (refine bodyPost_ret (v:= θ #[υ (f%32),υ t,δ bv bw.length bB]) ?rr1 rfl ?_;(case rr1=>(simp[results,results240,go_sem,bJ,c1,c2])))
 exact bu.o
def vd:Nat->List qQ->RdS->List qQ×RdS
 | 0,acc,s=>(acc,s)
 | n+1,acc,s=>if (qP s).2.1=[] then (acc++[(qP s).1],(qP s).2) else vd n (acc++[(qP s).1]) (qP s).2
def jI (b:List Int):List qQ×Int:=
 if 200<b.length then ([],4) else if (vd (b.length+1) [] (b,0)).2.2=0 then ((vd (b.length+1) [] (b,0)).1,0) else ([],(vd (b.length+1) [] (b,0)).2.2)
theorem vH (s:RdS) (x:Int):(wrS s x).1.length<=s.1.length:=by unfold wrS;split<;>simp
theorem uN (s:RdS) (n:Int):(tkS s n).1.length<=s.1.length:=by
 show (tkL s.1 n).length<=_;unfold tkL;simp
theorem ZC (s:RdS):(qP s).2.1.length<=s.1.length-1:=by
 have H:(ze s).2.1.length<=s.1.length-1:=by
  show (tkS (tkS (tkS s 1) 1) 2).1.length<=_;have H:=uN (tkS (tkS s 1) 1) 2;have G:=uN (tkS s 1) 1;have d:(tkS s 1).1.length=s.1.length-1:=by
   show (tkL s.1 1).length=_;unfold tkL;simp
  omega
 have G:(ua (ze s).1.1 (ze s).2).1.length<=(ze s).2.1.length:=by
  unfold ua;split
  ·exact vH _ _
  ·exact Nat.le_refl _
 have d: ∀f t n s,(vG f t n s).2.1.length<=s.1.length:=by
  intro f t n s;have:=uN s (4* n);unfold vG;split
  ·exact this
  ·simp only;split
   ·exact Nat.le_trans (vH _ _) this
   ·exact this
 exact Nat.le_trans (d _ _ _ _) (Nat.le_trans G H)
structure yG (w0 w:World) (R B0:Nat) (C:Nat->Prop) (b:List Int) (v:Value) (acc:List qQ) (s:RdS):Prop where
 rd:qu w R s.1 s.2 C
 row:je 3 yH (λk=>k=R) w B0 254 v acc
 more:qa w0 w
 len:acc.length+s.1.length<=b.length
 ans: ∃n,s.1.length<n/\vd n acc s=vd (b.length+1) [] (b,0)
 hR:w0.heap.size<=R
 RB:R<B0
 BW:B0<=w.heap.size
 CB: ∀g,C g->g<B0
theorem yG.body {I w w6 w8:World} {R G:Nat} {C:Nat->Prop} {b:List Int} {v v':Value} {acc:List qQ} {s:RdS} {o:Obj} (h:yG I w R G C b v acc s)
  (aa:qu w6 R (qP s).2.1 (qP s).2.2 C) (M:qg (λb=>b=R) w w6) (ab:je 3 yH (λk=>k=R) w8 G 254 v' (acc++[(qP s).1])) (d:(w6.alloc o).grownBy w8 v.ownBlock):
  qu w8 R (qP s).2.1 (qP s).2.2 C/\qa I w8/\G<=w8.heap.size:=by
 have H: ∀g,v.ownBlock=some g->G<=g:=λg e=>h.row.ge e
 have O:qa I (w6.alloc o):=(Jv M h.more h.hR).al o;have J:qg (λk=>v.ownBlock=some k) (w6.alloc o) w8:=⟨d.os,d.tape,d.output,d.size,λk U Y=>d.block k U (λe=>Y e.symm)⟩;refine⟨(aa.more (qa.alloc w6 o)).off J (λe=> ?_) (λg N e=> ?_),qg.to_more O J (λk e=> ?_),Nat.le_trans h.BW (Nat.le_trans M.size (Nat.le_trans (qa.alloc w6 o).size d.size))⟩
 ·have:=H R e;have:=h.RB;omega
 ·have:=H g e;have:=h.CB g N;omega
 ·have:=H k e;have:=h.RB;have:=h.hR;omega
theorem yG.next {G w w8:World} {R d:Nat} {C:Nat->Prop} {b:List Int} {v v':Value} {acc:List qQ} {s:RdS} (h:yG G w R d C b v acc s)
  (J:je 3 yH (λk=>k=R) w8 d 254 v' (acc++[(qP s).1])) (H:qu w8 R (qP s).2.1 (qP s).2.2 C/\qa G w8/\d<=w8.heap.size) (I: ¬(qP s).2.1=[]):
  yG G w8 R d C b v' (acc++[(qP s).1]) (qP s).2:=by
 have N:=ZC s;have O:=List.length_pos_iff.2 I;refine⟨H.1,J,H.2.1, ?_, ?_,h.hR,h.RB,H.2.2,h.CB⟩
 ·have:=h.len;simp;omega
 ·obtain⟨n,M,e⟩:=h.ans;cases n with
  | zero=>omega
  | succ n=>
   refine⟨n,τ, ?_⟩;rw[<-e,vd,if_neg I]
theorem yG.stop {H w:World} {R I:Nat} {C:Nat->Prop} {b:List Int} {v:Value} {acc:List qQ} {s:RdS} (h:yG H w R I C b v acc s) (G: ¬200<b.length) (d:(qP s).2.1=[]):
  jI b=if (qP s).2.2=0 then (acc++[(qP s).1],0) else ([],(qP s).2.2):=by
 obtain⟨n,J,e⟩:=h.ans;cases n with
 | zero=>omega
 | succ n=>
  rw[vd,if_pos d] at e;unfold jI;rw[if_neg G,<-e]
theorem Dv {w:World} {R:Nat} {e:Int} {C:Nat->Prop} (h:qu w R [] e C):
  Calls prog 61 #[γ R] w λd w'=>d= .returned (ι e)/\w'=w:=by
 refine(yT h).mono ?_;rintro d w' ⟨rfl,rfl⟩;refine⟨?_,rfl⟩;by_cases x:e=0
 ·rw[if_neg (by simp[x]),if_neg η,x]
 ·rw[if_pos x]
def QO:Value->Nat
 | .slice _ n _=>n
 | _=>0
theorem Kc {H w:World} {R J:Nat} {C:Nat->Prop} {b:List Int} {v vb:Value} {acc:List qQ} {s:RdS} (h:yG H w R J C b v acc s) (G: ∀g,vb.ownBlock=some g->w.heap.size<=g) (k:Nat) (I:vb.ownBlock=some k) (d:k=R∨v.ownBlock=some k):False:=by
 have M:=G k I;rcases d with rfl | d
 ·have:=h.RB;have:=h.BW;omega
 ·have:=h.row.lt d;omega
theorem AT {G w w6:World} {R d:Nat} {C:Nat->Prop} {b:List Int} {v:Value} {acc:List qQ} {s:RdS} {o:Obj} (h:yG G w R d C b v acc s) (a:qg (λb=>b=R) w w6) {k:Nat} (H:k=R):k<(w6.alloc o).heap.size:=by
 have:=h.RB;have:=h.BW;have:=a.size;have:=(qa.alloc w6 o).size;omega
theorem Ut {G w w6:World} {R d:Nat} {C:Nat->Prop} {b:List Int} {v:Value} {acc:List qQ} {s:RdS} {o:Obj} (h:yG G w R d C b v acc s) (a:qg (λb=>b=R) w w6):d<=(w6.alloc o).heap.size:=by
 have:=h.BW;have:=a.size;have:=(qa.alloc w6 o).size;omega
theorem Z6 (v:Value) (b:List Int) (w:World) (sl:SlI .u8 w v b) (I:Byt b) (bk:b.length<=1000000):
  Calls prog 212 #[v] w λe w'=> ∃vl,e= .returned (.tuple #[vl,ι (jI b).2])/\SlP 3 yH w' vl (jI b).1/\qa w w':=by
 obtain⟨bj,hi,br,bq,bb⟩:=info_parts (P:=prog) (e:=254) (z:= θ #[υ 0,υ 0,()]) (size:=3) (bytes:=32) ξ;have bm:=κ sl;obtain⟨bi,bh,rfl,_⟩:=sl;by_cases h200:200<b.length
 ·have M:jI b=([],4):=by unfold jI;rw[if_pos h200]
  have N:=κ M;have bf:(200:Int)<(b.length:Int):=by omega
  clear M
  go_enter func212,ntmps212
  go_wp2
  go_step3
  go_wp2;simp only[Exit.noGoto]
  (refine bodyPost_ret (v:= .tuple #[δ none 0 0,ι 4]) ?rr1 rfl ?_;(case rr1=>(simp[results,results212,go_sem])))
  exact⟨_,by rw[N.o],by rw[N.o];exact SlP.nil _ _ _,qa.refl _⟩
 ·have bf: ¬(200:Int)<(b.length:Int):=by omega
  have bt:b.length<=200:=by omega
  go_enter func212,ntmps212
  go_wp2;refine wp_scope_jumps 0 (λa' w'=> ∃R G C al aa af acc s aG aL aZ u8 aI aJ aQ aX aO aV aq aR ap aS aC aB aE av ay ar an,a'={tmps:= #[δ bi b.length bh,aG,(),ι 0,γ R,δ al aa af,aL,aZ,u8,aI,aJ,aQ,aX,aO,aV,aq,aR,ap,aS,aC,aB,aE,av,ay,ar,an],defers:=[]}/\yG w w' R G C b (δ al aa af) acc s/\aa=acc.length) (λa' _=>300-QO (a'.tmps.getD 5 undef)) rfl ?ja ?jb
  case' jb=>
   rintro a' w' ⟨R,G,C,al,aa,af,acc,s,aG,aL,aZ,u8,aI,aJ,aQ,aX,aO,aV,aq,aR,ap,aS,aC,aB,aE,av,ay,ar,an,rfl,aP,aN⟩;have d:=κ aP;have bo:=κ aN;clear aP aN
  case' ja=>
   go_wp2_with (go_at_call 53;(go_call km _ b w bm.o I bk as e w1 ⟨R,rfl,au,ak,bs⟩))
   go_step3
   have d:Hid (yG w w1 R w1.heap.size (λg=>w.heap.size<=g/\g<w1.heap.size) b (δ none 0 0) [] (b,0)):=κ ⟨ak,je.nil _ _ _ _ _ _,bs,η,⟨b.length+1,η,rfl⟩,au,by obtain⟨v,bd,_⟩:=ak.blk;exact qn bd,Nat.le_refl _,λg h=>h.2⟩;obtain⟨s,M⟩: ∃s:RdS,s=(b,0):=⟨_,rfl⟩;rw[<-M] at d;obtain⟨acc,aD⟩: ∃acc:List qQ,acc=[]:=⟨_,rfl⟩;rw[<-aD] at d;obtain⟨G,aT⟩: ∃G,G=w1.heap.size:=⟨_,rfl⟩;obtain⟨C,aU⟩: ∃C:Nat->Prop,C=λg=>w.heap.size<=g/\g<w1.heap.size:=⟨_,rfl⟩
   rw[<-aU,<-aT] at d;clear M aD aT aU ak au
  all_goals
   obtain⟨m,aH⟩: ∃m:Bool,decide ((0:Int)<((qP s).2.1.length:Int))=m:=⟨_,rfl⟩;have Y:=κ aH
   go_upto_if 19 with (first | (go_at_call 240;(go_call Wf d.o.rd as e w6 ⟨⟨vb,rfl,aY,aW,ao⟩,ba,az⟩;have N:=κ aY;have bp:=κ aW;have be:=κ ao;have bl:=κ ba;have U:=κ az;obtain⟨aA,aK,rfl,_⟩:=aY;clear ao ba aW az)) | (at_builtin;refine jN _ rfl (.tmp 12) (.tmp 15) 302 rfl G 254 bj (θ #[υ 0,υ 0,()]) 3 32 underlying302 hi br bq bb rfl ζ _ acc rfl ((d.o.row.step U.o).on (qa.alloc w6 (.cells #[υ (qP s).1.1,υ (qP s).1.2.1,δ aA (qP s).1.2.2.1.length aK] 254))) w6.heap.size [υ (qP s).1.1,υ (qP s).1.2.1,δ aA (qP s).1.2.2.1.length aK] (qP s).1 rfl rfl (zS rfl) (by simp[Value.oneCell']) (λw' a'=>VU ((N.o.keep (qa.alloc _ _)).off (λb I bc=>Kc d.o be.o b I bc) a') bp.o) (λb h=>AT d.o U.o h) ζ (by have:=d.o.len;omega) (Ut d.o U.o) ?_;intro v' w8 ab ax I;have ai:=κ ab;have H:=κ (d.o.body bl.o U.o ab ax);obtain⟨aj,ad,ae,rfl,aM,bg⟩:=ab.shape;have am:=κ aM;clear ab ax I aM bg) | (go_at_call 59;(go_call zn H.o.1 as e w9 ⟨rfl,rfl⟩)))
   clear aH;cases m with
   | false=>
    have bn:((qP s).2.1.length:Int)=0:=by have:=of_decide_eq_false Y.o;omega
    have ag:(qP s).2.1=[]:=List.eq_nil_of_length_eq_zero (by have:=of_decide_eq_false Y.o;omega);have O:=κ (d.o.stop h200 ag);have ac:=κ ag;clear ag;obtain⟨ah,aw⟩: ∃ah:Bool,((qP s).2.2 != 0)=ah:=⟨_,rfl⟩;have aF:=κ aw
    go_upto_if 23 with (go_at_call 61;(go_call Dv (R:=R) (e:=(qP s).2.2) (C:=C) (by (have:=H.o.1;rw[ac.o] at this;exact this)) as e w10 ⟨rfl,rfl⟩))
    clear aw;cases ah with
    | false=>
     have J:Hid ((qP s).2.2=0):=κ (by simpa using aF.o);go_wp2;simp only[Exit.jump]
     (refine bodyPost_ret (v:= .tuple #[δ aj ad ae,ι 0]) ?rr2 rfl ?_;(case rr2=>(simp[results,results212,go_sem])))
     exact⟨_,by rw[O.o,if_pos J.o],by rw[O.o,if_pos J.o];exact ai.o.sl ζ,H.o.2.1⟩
    | true=>
     have J:Hid (¬(qP s).2.2=0):=κ (by simpa using aF.o);go_wp2;simp only[Exit.jump]
     (refine bodyPost_ret (v:= .tuple #[δ none 0 0,ι (qP s).2.2]) ?rr3 rfl ?_;(case rr3=>(simp[results,results212,go_sem])))
     exact⟨_,by rw[O.o,if_neg J.o],by rw[O.o,if_neg J.o];exact SlP.nil _ _ _,H.o.2.1⟩
   | true=>
    have bn:(0:Int)<((qP s).2.1.length:Int):=of_decide_eq_true Y.o;have ac:Hid (¬(qP s).2.1=[]):=κ (λe=>by have:=of_decide_eq_true Y.o;rw[e] at this;simp at this);go_wp2
    go_step3
    first
     | exact⟨rfl,R,G,C,aj,ad,ae,_,_,_,_,_,_,_,_,_,_,_,_,_,_,_,_,_,_,_,_,_,_,_,rfl,d.o.next ai.o H.o ac.o,am.o⟩
     | exact⟨rfl,⟨R,G,C,aj,ad,ae,_,_,_,_,_,_,_,_,_,_,_,_,_,_,_,_,_,_,_,_,_,_,_,rfl,d.o.next ai.o H.o ac.o,am.o⟩,by have:=am.o;have:=d.o.len;have:=bo.o;simp[QO] at *;omega⟩
theorem kf {l:List Int} {n e:Int} (h:tkE l n e=0):e=0/\n<=l.length:=by
 unfold tkE at h;split at h
 ·cases h
 ·rename_i x;refine⟨h, ?_⟩;rcases Int.lt_or_le (l.length:Int) n with y | y
  ·exact absurd ⟨y,h⟩ x
  ·exact y
theorem Ym (s:RdS): ¬(wrS s 2).2=0:=by
 unfold wrS;split
 ·rename_i h;rcases h with h | h
  ·cases h
  ·exact h
 ·decide
theorem Gy {b:List Int} (G:Byt b) (h:(xg b).2=true):(xg b).1.length<b.length/\(b.length%4=0->(xg b).1.length%4=0):=by
 unfold xg at h ⊢;split at h
 ·cases h
 ·rename_i d;rw[if_neg d];simp only at h ⊢;have H:=G (b.length-1);generalize b.getD (b.length-1) 0=n at *;split at h
  ·cases h
  ·rename_i x;rw[if_neg x];have I:=List.length_pos_iff.2 d;simp only[List.length_take];omega
theorem Xy (L:List Int) (E:Int) (ac:Byt L) (h:(qP (L,E)).2.2=0):
  E=0/\(qP (L,E)).1.1<=31/\(qP (L,E)).1.2.2.1.length%4=0/\(chB (qP (L,E)).1).length+(qP (L,E)).2.1.length<=L.length/\((chB (qP (L,E)).1).length+(qP (L,E)).2.1.length=L.length->chB (qP (L,E)).1++(qP (L,E)).2.1=L):=by
 have M:Byt (tkL L 1):=ac.drop _;have G:Byt (tkL (tkL L 1) 1):=M.drop _;have au:Byt (tkL (tkL (tkL L 1) 1) 2):=G.drop _;have az:ze (L,E)=((num (tkB L 1),num (tkB (tkL L 1) 1),num (tkB (tkL (tkL L 1) 1) 2)),(tkL (tkL (tkL L 1) 1) 2,tkE (tkL (tkL L 1) 1) 2 (tkE (tkL L 1) 1 (tkE L 1 E)))):=rfl;have an:qP (L,E)=vG (ze (L,E)).1.1 (ze (L,E)).1.2.1 (ze (L,E)).1.2.2 (ua (ze (L,E)).1.1 (ze (L,E)).2):=rfl;rw[an] at h ⊢;rw[az] at h ⊢;simp only at h ⊢;generalize aq:tkL (tkL (tkL L 1) 1) 2=L3 at *;generalize aA:tkE (tkL (tkL L 1) 1) 2 (tkE (tkL L 1) 1 (tkE L 1 E))=E3 at *;generalize am:num (tkB L 1)=f at *;generalize ap:num (tkB (tkL L 1) 1)=t at *;generalize U:num (tkB (tkL (tkL L 1) 1) 2)=n at *;have ao:ua f (L3,E3)=(L3,E3)/\128<=f/\f<=191:=by
  by_cases x:f<128∨191<f
  ·exfalso;have e:ua f (L3,E3)=wrS (L3,E3) 2:=by unfold ua;rw[if_pos x]
   rw[e] at h;have O:=Ym (L3,E3);generalize wrS (L3,E3) 2=s at *;unfold vG at h;split at h
   ·exact O (kf h).1
   ·simp only at h;split at h
    ·exact Ym _ h
    ·exact O (kf h).1
  ·exact⟨by unfold ua;rw[if_neg x],τ,τ⟩
 obtain⟨ak,aF,aH⟩:=ao;rw[ak] at h ⊢;have ad:tkE L3 (4* n) E3=0:=by
  unfold vG at h;split at h
  ·exact h
  ·simp only at h;split at h
   ·exact absurd h (Ym _)
   ·exact h
 obtain⟨N,aD⟩:=kf ad;rw[<-aA] at N;obtain⟨ai,aE⟩:=kf N;obtain⟨al,av⟩:=kf ai;obtain⟨ar,ay⟩:=kf al;subst ar;obtain⟨aw,aB⟩:=uM ζ ay;obtain⟨ag,ax⟩:=uM ζ av;obtain⟨J,aa⟩:=uM ζ aE;have aj:=zv _ 2 (jL G 2) (by rw[aa];decide) ζ;rw[U] at aj;obtain⟨ae,af⟩:=uM (l:=L3) (n:=4* n) τ aD;have w1:=gR (jL ac 1) 1 aB ζ;have w2:=gR (jL M 1) 1 ax ζ;have ab:=gR (jL G 2) 2 aa ζ;rw[am] at w1;rw[ap] at w2;rw[U] at ab;rw[aq] at J;have Y:L=qy f 1++(qy t 1++(qy n 2++(tkB L3 (4* n)++tkL L3 (4* n)))):=by
  conv=>lhs;rw[aw,ag,J,ae]
  rw[show qy f 1=tkB L 1 from w1,show qy t 1=tkB (tkL L 1) 1 from w2,show qy n 2=tkB (tkL (tkL L 1) 1) 2 from ab]
 have aI:L.length=4+(tkB L3 (4* n)).length+(tkL L3 (4* n)).length:=by
  conv=>lhs;rw[Y]
  simp only[List.length_append,qK _ _ (show (0:Int)<=1/\(1:Int)<=8 by decide),qK _ _ (show (0:Int)<=2/\(2:Int)<=8 by decide)];simp;omega
 refine⟨rfl, ?_⟩;unfold vG at h ⊢;by_cases hp:f%64<32
 ·rw[if_pos hp];have H:tkS (L3,E3) (4* n)=(tkL L3 (4* n),tkE L3 (4* n) E3):=rfl;rw[H];simp only;have d:chB (f%32,t,tkB L3 (4* n),())=qy f 1++(qy t 1++(qy n 2++tkB L3 (4* n))):=by
   unfold chB;simp only;rw[show 128+f%32=f by omega,af,show 4* n/4=n by omega]
  have I:=YJ (f%32,t,tkB L3 (4* n),());simp only at I;refine⟨τ,τ,τ,λ_=> ?_⟩;rw[d]
  conv=>rhs;rw[Y]
  simp only[List.append_assoc]
 ·rw[if_neg hp] at h ⊢;simp only at h ⊢;have H:tkS (L3,E3) (4* n)=(tkL L3 (4* n),tkE L3 (4* n) E3):=rfl;rw[H] at h ⊢;by_cases d:(xg (tkB L3 (4* n))).2=false∨ ¬(tkL L3 (4* n),tkE L3 (4* n) E3).1=[]
  ·rw[if_pos d] at h;exact absurd h (Ym _)
  ·rw[if_neg d];have ah:(xg (tkB L3 (4* n))).2=true:=by
    cases x:(xg (tkB L3 (4* n))).2 with
    | true=>rfl
    | false=>exact absurd (Or.inl x) d
   obtain⟨aG,aC⟩:=Gy (jL au (4* n)) ah;have I:=YJ (f%32,t,(xg (tkB L3 (4* n))).1,());simp only at I ⊢;refine⟨τ,aC τ,τ,λx=>by omega⟩
theorem jK {s:RdS} (h:Byt s.1) (n:Int):Byt (tkS s n).1:=h.drop _
theorem gu {s:RdS} (h:Byt s.1) (x:Int):Byt (wrS s x).1:=by
 unfold wrS;split
 ·exact h
 ·exact xh
theorem GQ {s:RdS} (h:Byt s.1):Byt (qP s).2.1:=by
 have G:Byt (ze s).2.1:=jK (jK (jK h 1) 1) 2;have d:Byt (ua (ze s).1.1 (ze s).2).1:=by
  unfold ua;split
  ·exact gu G 2
  ·exact G
 show Byt (vG _ _ _ _).2.1;unfold vG;split
 ·exact jK d _
 ·simp only;split
  ·exact gu (jK d _) 2
  ·exact jK d _
theorem uv (c:qQ) (l:List qQ):flC (c::l)=chB c++flC l:=rfl
theorem QX: ∀(n:Nat) (acc:List qQ) (L:List Int) (E:Int),Byt L->L.length<n->(vd n acc (L,E)).2.2=0->
  ∃k,(vd n acc (L,E)).1=acc++k/\E=0/\(∀c∈k,c.1<=31/\c.2.2.1.length%4=0)/\(flC k).length<=L.length/\((flC k).length=L.length->flC k=L)
 | 0,_,_,_,_,h,_=>by omega
 | n+1,acc,L,E,hb,hn,h=>by
  have N:=ZC (L,E);rw[vd] at h ⊢;by_cases e:(qP (L,E)).2.1=[]
  ·rw[if_pos e] at h ⊢;obtain⟨I,J,M,H,G⟩:=Xy L E hb h;rw[e] at H G;refine⟨[(qP (L,E)).1],rfl,I,λc d=> ?_, ?_, ?_⟩
   ·simp at d;subst d;exact⟨J,M⟩
   ·rw[uv];simpa [flC] using H
   ·rw[uv];simpa [flC] using G
  ·rw[if_neg e] at h ⊢;have ac:=List.length_pos_iff.2 e;have ab:Byt (qP (L,E)).2.1:=GQ hb;obtain⟨k,Y,aa,O,ad,U⟩:=QX n (acc++[(qP (L,E)).1]) (qP (L,E)).2.1 (qP (L,E)).2.2 ab (by simp only at N;omega) h;obtain⟨I,J,M,H,G⟩:=Xy L E hb aa;refine⟨(qP (L,E)).1::k,by rw[Y];simp,I,λc d=> ?_, ?_,λx=> ?_⟩
   ·simp at d;rcases d with rfl | d
    ·exact⟨J,M⟩
    ·exact O c d
   ·rw[uv,List.length_append];omega
   ·rw[uv,List.length_append] at x;rw[uv,U τ];exact G τ
theorem D9: ∀(l:List Nat) (x:Nat),x∈l->x<=l.sum
 | y::l,x,h=>by
  simp at h;rcases h with rfl | h
  ·simp
  ·have:=D9 l x h;simp;omega
theorem QY {b:List Int} {k:List qQ} (N:Byt b) (h:jI b=(k,0)):vW k=(flC k,0)/\(flC k).length<=b.length/\((flC k).length=b.length->flC k=b)/\szC k<=200:=by
 unfold jI at h;split at h
 ·cases h
 ·rename_i aa;split at h
  ·rename_i I;obtain⟨k',U,_,G,J,M⟩:=QX (b.length+1) [] b 0 N τ I;rw[U] at h;obtain rfl:k'=k:=by injection h
   have H:szC k'<=200:=by rw[<-YH];omega
   refine⟨?_,J,M,H⟩;have O:k'.all jx=true:=by
    rw[List.all_eq_true];intro c d;have Y:4+c.2.2.1.length<=szC k':=by
     unfold szC;exact D9 _ _ (List.mem_map.2 ⟨c,d,rfl⟩)
    rw[zO];exact⟨(G c d).1,(G c d).2,τ⟩
   unfold vW;rw[if_neg (by rw[O];simp),if_neg τ]
  ·rename_i x;exact absurd (congrArg Prod.snd h) x
theorem Cc {l:List qQ} {x:List Int} (h:vW l=(x,0)):x=flC l/\(∀c∈l,jx c=true)/\szC l<=200:=by
 unfold vW at h;split at h
 ·cases h
 ·rename_i d;split at h
  ·cases h
  ·rename_i H;have G:flC l=x:=by injection h
   refine⟨G.symm, ?_,τ⟩;have:l.all jx=true:=by
    cases y:l.all jx with
    | true=>rfl
    | false=>exact absurd y d
   exact List.all_eq_true.1 this
section
open Go.RowKit Go.ChangeShapes
structure Blk where
 src:Int
 part:Int
 miss:Int
 high:Int
 jit:Int
 last:Int
 dly:Int
def Blk.tup (b:Blk):Int×Int×Int×Int×Int×Int×Int:=(b.src,b.part,b.miss,b.high,b.jit,b.last,b.dly)
theorem Blk.tup_inj {a b:Blk} (h:a.tup=b.tup):a=b:=by
 obtain⟨⟩:=a;obtain⟨⟩:=b;simp only[Blk.tup,Prod.mk.injEq] at h;simp[h]
instance:DecidableEq Blk:=λ_ _=>decidable_of_iff _ ⟨Blk.tup_inj,λh=>by rw[h]⟩
structure Inf where
 sec:Int
 frac:Int
 stamp:Int
 pkts:Int
 octs:Int
def Inf.tup (b:Inf):Int×Int×Int×Int×Int:=(b.sec,b.frac,b.stamp,b.pkts,b.octs)
theorem Inf.tup_inj {a b:Inf} (h:a.tup=b.tup):a=b:=by
 obtain⟨⟩:=a;obtain⟨⟩:=b;simp only[Inf.tup,Prod.mk.injEq] at h;simp[h]
instance:DecidableEq Inf:=λ_ _=>decidable_of_iff _ ⟨Inf.tup_inj,λh=>by rw[h]⟩
structure Rep where
 snd:Bool
 src:Int
 inf:Inf
 bl:List Blk
def Rep.tup (b:Rep):Bool×Int×Inf×List Blk:=(b.snd,b.src,b.inf,b.bl)
theorem Rep.tup_inj {a b:Rep} (h:a.tup=b.tup):a=b:=by
 obtain⟨⟩:=a;obtain⟨⟩:=b;simp only[Rep.tup,Prod.mk.injEq] at h;simp[h]
instance:DecidableEq Rep:=λ_ _=>decidable_of_iff _ ⟨Rep.tup_inj,λh=>by rw[h]⟩
structure QS (b:Blk):Prop where
 src:U32 b.src
 part:0<=b.part/\b.part<=255
 miss: -2147483648<=b.miss/\b.miss<=2147483647
 high:U32 b.high
 jit:U32 b.jit
 last:U32 b.last
 dly:U32 b.dly
structure Wv (b:Inf):Prop where
 sec:U32 b.sec
 frac:U32 b.frac
 stamp:U32 b.stamp
 pkts:U32 b.pkts
 octs:U32 b.octs
structure Zx (r:Rep):Prop where
 src:U32 r.src
 inf:Wv r.inf
 bl: ∀b∈r.bl,QS b
def Blk.cells (b:Blk):List Value:=[.int .u32 b.src,.int .u8 b.part,.int .i32 b.miss,.int .u32 b.high,.int .u32 b.jit,.int .u32 b.last,.int .u32 b.dly]
def Yj:qL Blk:=λ_ cs b=>cs=b.cells/\QS b
theorem Ca:QQ Yj:=λ_ _ _ _ _ h=>h
theorem Ei {α:Type} {n:Nat} {R:qL α} {w:World} {v:Value} {L:List α} (h:SlP n R w v L) {p:α->Prop} (H: ∀cs y,R w cs y->p y): ∀b∈L,p b:=by
 obtain⟨_,_,_,_,G,_⟩:=h;intro b I;obtain⟨i,hi,rfl⟩:=List.mem_iff_getElem.1 I;obtain⟨_,_,_,_,_,_,_,d⟩:=G i hi;exact H _ _ d
def Γm (x:Rep) (a:Option Addr) (b:Nat):Mm:=.o
instance (x:Rep) (a:Option Addr) (b:Nat):CoeDep Mm (Γm x a b) (List Value):=⟨[μ x.snd,ω x.src,ω x.inf.sec,ω x.inf.frac,ω x.inf.stamp,ω x.inf.pkts,ω x.inf.octs,δ a x.bl.length b]⟩
instance (x:Rep) (a:Option Addr) (b:Nat):CoeDep Mm (Γm x a b) (Array Value):=⟨#[μ x.snd,ω x.src,ω x.inf.sec,ω x.inf.frac,ω x.inf.stamp,ω x.inf.pkts,ω x.inf.octs,δ a x.bl.length b]⟩
instance (x:Rep) (a:Option Addr) (b:Nat):CoeDep Mm (Γm x a b) Value:=⟨θ #[μ x.snd,ω x.src,ω x.inf.sec,ω x.inf.frac,ω x.inf.stamp,ω x.inf.pkts,ω x.inf.octs,δ a x.bl.length b]⟩
def Γn (s:Bool) (r:Int) (x:Inf) (a:Option Addr) (l:List Blk) (b:Nat):Mm:=.o
instance (s:Bool) (r:Int) (x:Inf) (a:Option Addr) (l:List Blk) (b:Nat):CoeDep Mm (Γn s r x a l b) (List Value):=⟨[μ s,ω r,ω x.sec,ω x.frac,ω x.stamp,ω x.pkts,ω x.octs,δ a l.length b]⟩
instance (s:Bool) (r:Int) (x:Inf) (a:Option Addr) (l:List Blk) (b:Nat):CoeDep Mm (Γn s r x a l b) (Array Value):=⟨#[μ s,ω r,ω x.sec,ω x.frac,ω x.stamp,ω x.pkts,ω x.octs,δ a l.length b]⟩
instance (s:Bool) (r:Int) (x:Inf) (a:Option Addr) (l:List Blk) (b:Nat):CoeDep Mm (Γn s r x a l b) Value:=⟨θ #[μ s,ω r,ω x.sec,ω x.frac,ω x.stamp,ω x.pkts,ω x.octs,δ a l.length b]⟩
end
def Jj:Inf:=⟨0,0,0,0,0⟩
def Qh:Rep:=⟨false,0,Jj,[]⟩
def kD (b:Blk):Bool:=decide (-8388608<=b.miss/\b.miss<=8388607)
def vN (r:Rep):Bool:=(r.snd||decide (r.inf=Jj))&&r.bl.all kD&&decide (r.bl.length<=if r.snd then 7 else 8)
def JK (b:Blk):List Int:=qy b.src 4++(qy b.part 1++(qy (b.miss%4294967296) 3++(qy b.high 4++(qy b.jit 4++(qy b.last 4++qy b.dly 4)))))
def flR (l:List Blk):List Int:=l.flatMap JK
def Yf (i:Inf):List Int:=qy i.sec 4++(qy i.frac 4++(qy i.stamp 4++(qy i.pkts 4++qy i.octs 4)))
def Zu (r:Rep):List Int:=qy r.src 4++(if r.snd then Yf r.inf else [])
def Za (r:Rep):List Int:=Zu r++flR r.bl
def Qm (r:Rep):qQ×Int:=if vN r then (((r.bl.length:Int),(if r.snd then 200 else 201),Za r,()),0) else ((0,0,[],()),1)
def xP (s:RdS):Int:=num (tkB s.1 4)
def jA (s:RdS):Inf×RdS:=
 (⟨xP s,xP (tkS s 4),xP (tkS (tkS s 4) 4),xP (tkS (tkS (tkS s 4) 4) 4),xP (tkS (tkS (tkS (tkS s 4) 4) 4) 4)⟩,tkS (tkS (tkS (tkS (tkS s 4) 4) 4) 4) 4)
def qM (s:RdS):Blk×RdS:=
 (⟨xP s,num (tkB (tkS s 4).1 1),sgd (num (tkB (tkS (tkS s 4) 1).1 3)) 24,xP (tkS (tkS (tkS s 4) 1) 3),xP (tkS (tkS (tkS (tkS s 4) 1) 3) 4),xP (tkS (tkS (tkS (tkS (tkS s 4) 1) 3) 4) 4),xP (tkS (tkS (tkS (tkS (tkS (tkS s 4) 1) 3) 4) 4) 4)⟩,tkS (tkS (tkS (tkS (tkS (tkS (tkS s 4) 1) 3) 4) 4) 4) 4)
def js:Nat->RdS->List Blk×RdS
 | 0,s=>([],s)
 | n+1,s=>((qM s).1::(js n (qM s).2).1,(js n (qM s).2).2)
def wM (s:RdS):Int:=if ¬s.2=0 then s.2 else if 0<s.1.length then 4 else 0
def yZ (r:Rep) (s:RdS):Rep×Int:=if wM s=0 then (r,0) else (Qh,wM s)
def qG (c:qQ):Rep×Int:=
 if jx c=false then (Qh,1)
 else if c.2.1=200 then yZ ⟨true,xP (c.2.2.1,0),(jA (tkS (c.2.2.1,0) 4)).1,(js c.1.toNat (jA (tkS (c.2.2.1,0) 4)).2).1⟩ (js c.1.toNat (jA (tkS (c.2.2.1,0) 4)).2).2
 else if c.2.1=201 then yZ ⟨false,xP (c.2.2.1,0),Jj,(js c.1.toNat (tkS (c.2.2.1,0) 4)).1⟩ (js c.1.toNat (tkS (c.2.2.1,0) 4)).2
 else (Qh,5)
theorem Q5 {s:RdS} (h:Jm s):(jA s).2=adv s 20:=by
 show tkS (tkS (tkS (tkS (tkS s (4:Nat)) (4:Nat)) (4:Nat)) (4:Nat)) (4:Nat)=_;rw[gz 4 h,xF,xF,xF,xF]
theorem Q6 {s:RdS} (h:Jm s):(qM s).2=adv s 24:=by
 show tkS (tkS (tkS (tkS (tkS (tkS (tkS s (4:Nat)) (1:Nat)) (3:Nat)) (4:Nat)) (4:Nat)) (4:Nat)) (4:Nat)=_;rw[gz 4 h,xF,xF,xF,xF,xF,xF]
theorem uB: ∀(n:Nat) {s:RdS},Jm s->(js n s).2=adv s (24* n)
 | 0,s,h=>by rw[Nat.mul_zero,Cu h];rfl
 | n+1,s,h=>by
  show (js n (qM s).2).2=_;rw[uB n (by rw[Q6 h];exact vj _ _),Q6 h,gG]
  congr 1
  omega
theorem uz: ∀(n:Nat) (s:RdS),(js n s).1.length=n
 | 0,_=>rfl
 | n+1,s=>by
  show ((qM s).1::(js n (qM s).2).1).length=_;rw[List.length_cons,uz n]
def QM (c:qQ):Nat:=4+(if c.2.1=200 then 20 else 0)+24* c.1.toNat
theorem II (l:List Int):wM (l,0)=if 0<l.length then 4 else 0:=by unfold wM;rw[if_neg η]
theorem IH:wM ([],3)=3:=by decide
theorem Fo (r:Rep) (s:RdS):(yZ r s).2=wM s:=by
 unfold yZ;split
 ·rename_i h;exact h.symm
 ·rfl
theorem GJ (c:qQ) (H:jx c=true) (d:c.2.1=200∨c.2.1=201):(qG c).2=if c.2.2.1.length<QM c then 3 else if QM c<c.2.2.1.length then 4 else 0:=by
 have I:Jm (c.2.2.1,0):=λh=>absurd rfl h
 have key: ∀(r:Rep) (s:RdS) (k:Nat),s=adv (c.2.2.1,0) k->(yZ r s).2=if c.2.2.1.length<k then 3 else if k<c.2.2.1.length then 4 else 0:=by
  rintro r s k rfl;rw[Fo];unfold adv;simp only[if_true];by_cases h:k<=c.2.2.1.length
  ·rw[if_pos h,II,List.length_drop];by_cases h2:k<c.2.2.1.length
   ·rw[if_pos τ,if_neg τ,if_pos h2]
   ·rw[if_neg τ,if_neg τ,if_neg h2]
  ·rw[if_neg h,IH,if_pos τ]
 unfold qG;rw[if_neg (by rw[H];simp)];have G:tkS (c.2.2.1,0) 4=adv (c.2.2.1,0) 4:=gz 4 I;rcases d with d | d
 ·rw[if_pos d];refine key _ _ _ ?_;rw[uB _ (by rw[Q5 (by rw[G];exact vj _ _)];exact vj _ _),Q5 (by rw[G];exact vj _ _),G,gG,gG];unfold QM;rw[if_pos d,Nat.add_assoc]
 ·rw[if_neg (by rw[d];decide),if_pos d];refine key _ _ _ ?_;rw[uB _ (by rw[G];exact vj _ _),G,gG];unfold QM;rw[if_neg (by rw[d];decide),Nat.add_zero]
theorem xd (x:Int) (d:U32 x) (r:List Int):xP (qy x 4++r,0)=x/\tkS (qy x 4++r,0) 4=(r,0):=by
 obtain⟨H,G⟩:=JY x 4 ζ r;refine⟨?_,H⟩;unfold xP;simp only;rw[show tkB (qy x 4++r) 4=qy x 4 from G];exact Xi x 4 d.1 ζ (by have:=d.2;show x<4294967296;omega)
theorem YX (i:Inf) (h:Wv i) (r:List Int):jA (Yf i++r,0)=(i,(r,0)):=by
 unfold Yf;simp only[List.append_assoc];obtain⟨M,I⟩:=xd i.sec h.sec (qy i.frac 4++(qy i.stamp 4++(qy i.pkts 4++(qy i.octs 4++r))));obtain⟨d,N⟩:=xd i.frac h.frac (qy i.stamp 4++(qy i.pkts 4++(qy i.octs 4++r)));obtain⟨a3,H⟩:=xd i.stamp h.stamp (qy i.pkts 4++(qy i.octs 4++r));obtain⟨a4,J⟩:=xd i.pkts h.pkts (qy i.octs 4++r);obtain⟨a5,G⟩:=xd i.octs h.octs r;unfold jA;simp only[M,I,d,N,a3,H,a4,J,a5,G]
theorem LT (x:Int) (h: -8388608<=x/\x<=8388607):sgd (x%16777216) 24=x:=by
 have G:two 24=16777216:=by decide
 have d:two (24-1)=8388608:=by decide
 unfold sgd;rw[G,d,if_neg ζ];split<;>omega
theorem YZ (b:Blk) (h:QS b) (U:kD b=true) (r:List Int):qM (JK b++r,0)=(b,(r,0)):=by
 have M: -8388608<=b.miss/\b.miss<=8388607:=by simpa [kD] using U
 unfold JK;simp only[List.append_assoc];obtain⟨ac,aa⟩:=xd b.src h.src (qy b.part 1++(qy (b.miss%4294967296) 3++(qy b.high 4++(qy b.jit 4++(qy b.last 4++(qy b.dly 4++r))))));obtain⟨I,d⟩:=JY b.part 1 ζ (qy (b.miss%4294967296) 3++(qy b.high 4++(qy b.jit 4++(qy b.last 4++(qy b.dly 4++r)))));obtain⟨G,a3⟩:=JY (b.miss%4294967296) 3 ζ (qy b.high 4++(qy b.jit 4++(qy b.last 4++(qy b.dly 4++r))));obtain⟨a4,ab⟩:=xd b.high h.high (qy b.jit 4++(qy b.last 4++(qy b.dly 4++r)));obtain⟨a5,Y⟩:=xd b.jit h.jit (qy b.last 4++(qy b.dly 4++r));obtain⟨O,ad⟩:=xd b.last h.last (qy b.dly 4++r);obtain⟨J,N⟩:=xd b.dly h.dly r;have n2:num (qy b.part (1:Nat))=b.part:=Xi _ 1 h.part.1 ζ (by have:=h.part.2;show b.part<256;omega);have H:sgd (num (qy (b.miss%4294967296) (3:Nat))) 24=b.miss:=by
  have e:qy (b.miss%4294967296) (3:Nat)=qy (b.miss%4294967296%16777216) (3:Nat):=(QH _).symm;rw[e,Xi _ 3 τ ζ (by show _<16777216;omega),show b.miss%4294967296%16777216=b.miss%16777216 by omega];exact LT _ M
 unfold qM;have I:tkS (qy b.part 1++(qy (b.miss%4294967296) 3++(qy b.high 4++(qy b.jit 4++(qy b.last 4++(qy b.dly 4++r))))),0) 1=(qy (b.miss%4294967296) 3++(qy b.high 4++(qy b.jit 4++(qy b.last 4++(qy b.dly 4++r)))),0):=I;have d:tkB (qy b.part 1++(qy (b.miss%4294967296) 3++(qy b.high 4++(qy b.jit 4++(qy b.last 4++(qy b.dly 4++r)))))) 1=qy b.part 1:=d;have G:tkS (qy (b.miss%4294967296) 3++(qy b.high 4++(qy b.jit 4++(qy b.last 4++(qy b.dly 4++r)))),0) 3=(qy b.high 4++(qy b.jit 4++(qy b.last 4++(qy b.dly 4++r))),0):=G;have a3:tkB (qy (b.miss%4294967296) 3++(qy b.high 4++(qy b.jit 4++(qy b.last 4++(qy b.dly 4++r))))) 3=qy (b.miss%4294967296) 3:=a3;have n2:num (qy b.part 1)=b.part:=n2;have H:sgd (num (qy (b.miss%4294967296) 3)) 24=b.miss:=H;simp only[ac,aa,d,I,a3,G,a4,ab,a5,Y,O,ad,J,N,n2,H]
theorem Xm (b:Blk) (l:List Blk):flR (b::l)=JK b++flR l:=rfl
theorem uA: ∀(l:List Blk) (r:List Int),(∀b∈l,QS b/\kD b=true)->js l.length (flR l++r,0)=(l,(r,0))
 | [],r,_=>rfl
 | b::l,r,h=>by
  have d:=h b η;rw[Xm,List.append_assoc];show ((qM (JK b++(flR l++r),0)).1::(js l.length (qM (JK b++(flR l++r),0)).2).1,(js l.length (qM (JK b++(flR l++r),0)).2).2)=_;rw[YZ b d.1 d.2,uA l r (λc G=>h c (by simp[G]))]
theorem kM (r:Rep):vN r=true↔(r.snd=false->r.inf=Jj)/\(∀b∈r.bl,kD b=true)/\r.bl.length<=if r.snd then 7 else 8:=by
 unfold vN;simp only[Bool.and_eq_true,Bool.or_eq_true,decide_eq_true_eq,List.all_eq_true];constructor
 ·rintro⟨⟨d,H⟩,G⟩;refine⟨λh=> ?_,H,G⟩;rcases d with d | d
  ·rw[h] at d;cases d
  ·exact d
 ·rintro⟨d,H,G⟩;refine⟨⟨?_,H⟩,G⟩;cases hs:r.snd with
  | true=>exact Or.inl rfl
  | false=>exact Or.inr (d hs)
theorem VW (b:Blk):(JK b).length=24:=by
 unfold JK;simp only[List.length_append,qK _ _ (show (0:Int)<=4/\(4:Int)<=8 by decide),qK _ _ (show (0:Int)<=1/\(1:Int)<=8 by decide),qK _ _ (show (0:Int)<=3/\(3:Int)<=8 by decide)]
 decide
theorem VN (i:Inf):(Yf i).length=20:=by
 unfold Yf;simp only[List.length_append,qK _ _ (show (0:Int)<=4/\(4:Int)<=8 by decide)]
 decide
theorem YG (l:List Blk):(flR l).length=24* l.length:=by
 induction l with
 | nil=>rfl
 | cons b l ih=>rw[Xm,List.length_append,VW,ih,List.length_cons];omega
theorem Bc (r:Rep):(Za r).length=4+(if r.snd then 20 else 0)+24* r.bl.length:=by
 unfold Za Zu;rw[List.length_append,List.length_append,YG,qK _ _ ζ];cases r.snd with
 | true=>simp[VN]
 | false=>simp
theorem kK {r:Rep} (h:vN r=true):Qm r=(((r.bl.length:Int),(if r.snd then 200 else 201),Za r,()),0):=by unfold Qm;rw[if_pos h]
theorem YO {r:Rep} (h:vN r=true):jx (Qm r).1=true:=by
 obtain⟨_,_,d⟩:=(kM r).1 h;rw[kK h,zO];have G:=Bc r;simp only;cases hs:r.snd with
 | true=>rw[hs] at d G;simp at d G;omega
 | false=>rw[hs] at d G;simp at d G;omega
theorem YW {r:Rep} (G:Zx r) (h:vN r=true):qG (Qm r).1=(r,0):=by
 have N:=YO h;obtain⟨M,O,U⟩:=(kM r).1 h;unfold qG;rw[if_neg (by rw[N];simp),kK h];obtain⟨s,src,i,bl⟩:=r;simp only at *;have d: ∀b∈bl,QS b/\kD b=true:=λb d=>⟨G.bl b d,O b d⟩
 have J:yZ ⟨s,src,i,bl⟩ ([],0)=(⟨s,src,i,bl⟩,0):=rfl;cases s with
 | true=>
  have e:Za ⟨true,src,i,bl⟩=qy src 4++(Yf i++(flR bl++[])):=by unfold Za Zu;simp[List.append_assoc]
  rw[e];obtain⟨I,H⟩:=xd src G.src (Yf i++(flR bl++[]));simp only[if_true,I,H,YX i G.inf,Int.toNat_natCast,uA bl [] d,J]
 | false=>
  have hi:i=Jj:=M rfl;subst hi;have e:Za ⟨false,src,Jj,bl⟩=qy src 4++(flR bl++[]):=by unfold Za Zu;simp[List.append_assoc]
  rw[e];obtain⟨I,H⟩:=xd src G.src (flR bl++[]);simp only[I,H,Int.toNat_natCast,uA bl [] d];exact J
abbrev U8 (n:Int):Prop:=0<=n/\n<=255
def ahd (a b:Int):Int:=(b-a+32768)%65536-32768
def tb (m:Int) (k:Nat):Bool:=m.toNat.testBit k
def prN (p:Int×Int):List Int:=p.1::((List.range 16).filter (tb p.2)).map λk:Nat=>(p.1+k+1)%65536
def prJ (l:List (Int×Int)) (n:Int):Prop:= ¬l=[]/\1<=ahd (l.getLastD (0,0)).1 n/\ahd (l.getLastD (0,0)).1 n<=16
instance (l:List (Int×Int)) (n:Int):Decidable (prJ l n):=by unfold prJ;infer_instance
theorem WM (p:Int×Int):1<=(prN p).length/\(prN p).length<=17:=by
 unfold prN;rw[List.length_cons,List.length_map];have:=List.length_filter_le (tb p.2) (List.range 16);rw[List.length_range] at this;omega
theorem Kn {l:List Int} (h:l≠[]):l.getLastD 0=l.getD (l.length-1) 0:=by
 rw[List.getLastD_eq_getLast?,List.getLast?_eq_getElem?,List.getD_eq_getElem?_getD]
end Go.Proofs.YtdgippmmaponfaaGreat
