/- x -/
import Derived.Test.YtmgaiiffmheabaaGreatDoorMg8
import Derived.Laws.IdiomStrings
import Derived.WalkLawsBesides
namespace Go.Proofs.YtmgaiiffmheabaaGreatDoor
open Option renaming some->ϊ,none->ϋ
open Bool renaming true->ό,false->ύ
open Go.Value renaming bool->μ,slice->δ,pointer->π,agg->θ
open Go.IntKind renaming i64->ι,u8->υ,u16->φ,u32->ω,i32->χ,u64->ψ
open _root_.Go.Proofs.Tryz
set_option linter.all false
set_option maxHeartbeats 8000000
open Go.RowKit
set_option maxRecDepth 100000
variable {ws:List ByteArray} {fm d:ByteArray}
def qax (n:Int) (c:UInt8):Int:=10* n+((c.toNat:Int)-48)
def OP (l:List UInt8):Int:=l.foldl qax 0
def RM (c:UInt8):Bool:=decide (48<=c.toNat)&&decide (c.toNat<=57)
def OX (l:List UInt8) (i:Nat) (h:i<l.length):OP (l.take (i+1))=10* OP (l.take i)+((l[i].toNat:Int)-48):=by
 unfold OP;rw[ϡ h,Φ];rfl
def RR (l:List UInt8) (G: ∀c∈l,RM c=ό): ∀i,i<=l.length->0<=OP (l.take i)/\OP (l.take i)<((10 ^ i:Nat):Int)
 | 0,_=>by simp[OP]
 | i+1,h=>by
  obtain⟨H,I⟩:=RR l G i τ;have d:=G _ (ϥ (show i<l.length by omega));unfold RM at d;rw[C2] at d;have J:=Ϧ d.1;have N:=Ϧ d.2;rw[OX l i τ,Nat.pow_succ];generalize 10 ^ i=p at *;omega
structure NH (wd:ByteArray) (most n:Int):Prop where
 pos:1<=wd.data.toList.length
 few:wd.data.toList.length<=9
 dig: ∀c∈wd.data.toList,RM c=ό
 val:OP wd.data.toList=n
 le:n<=most
def To (s:ByteArray):s.size=s.data.toList.length:=rfl
def RF {ad n:Int} (h:NH d ad n) (w:World):
  Calls prog 36 #[.string d,ι ad] w λe w'=>e= .returned (ι n)/\ql w w':=by
 obtain⟨ak,am,J,ac,az⟩:=h;obtain⟨l,G⟩:=ν (d.data.toList);obtain⟨cap,W1,ao,aa,O⟩: ∃cap W1,(convert 9 24 (.string d)).run prog w= .ok (δ (ϊ ⟨w.heap.size,0,ϋ⟩) l.length cap) W1/\(∀i (hi:i<l.length),W1.cell? ⟨w.heap.size,i,ϋ⟩=ϊ (υ (l[i].toNat:Int)))/\ql w W1:=by
  subst G;refine⟨_,_,run_bytes_of_string w 9 24 5 d underlying9 underlying24 underlying5,λi hi=> ?_,(ql.drewN w 1).al _⟩;have e:=World.cell?_alloc_mark w.drew (bytesRow d (grownCap w d.size 0 5)) 5 ((bytesRow d (grownCap w d.size 0 5)).size,(bytesRow d (grownCap w d.size 0 5)).size+1) i;refine e.trans ?_;rw[bytesRow_at d _ i (by simpa using hi)];simp
 have af:=κ aa
 have ag:Hid (∀i (hi:i<l.length),(48:Int)<=l[i].toNat/\(l[i].toNat:Int)<=57):=κ (λi hi=>by
  subst G;have H:=J _ (ϥ hi);unfold RM at H;rw[C2] at H;have ax:=Ϧ H.1;have ay:=Ϧ H.2
  omega)
 have ae:=κ (RR l (by rw[<-G];exact J));have aj:=κ (OX l);have ai:Hid (OP (l.take l.length)=n):=κ (by rw[Ϩ,<-G];exact ac);have aA:(d.size:Int)=(l.length:Int):=by rw[To,G]
 rw[G] at ak am;have aB: ¬(l.length:Int)<1:=by omega
 have aC: ¬(9:Int)<(l.length:Int):=by omega
 have ah:=κ O;clear aa J ac G O
 go_enter func36,ntmps36
 go_wp2
 go_loopw [5,20] (λu N wr=> ∃i:Nat,i<=l.length/\N= ι i/\u= ι (OP (l.take i))/\ql W1 wr) (λ_ N _=>l.length-(intOf N).toNat)
 case atStart=>exact⟨0,τ,rfl,rfl,ql.refl _⟩
 case round=>
  obtain⟨i,hi,rfl,rfl,ab⟩:=hrel;have I:=κ ab;clear ab ao;by_cases hlt:i<l.length
  ·have ap:(i:Int)<(l.length:Int):=by omega
   have au:wr.cell? ⟨w.heap.size,i,ϋ⟩=ϊ (υ (l[i].toNat:Int)):=by
    have e:=af.o i hlt;rw[I.o.cells _ _ (Gb e).2];exact e
   obtain⟨av,aw⟩:=ag.o i hlt;obtain⟨ar,U⟩:=ae.o i τ;have Y:10 ^ i<=10 ^ 9:=C9 ζ τ;have an:=aj.o i hlt;generalize OP (l.take i)=q at *;generalize ((l[i].toNat:Nat):Int)=c at *;have aD: ¬c<48:=by omega
   have aE: ¬57<c:=by omega
   have aG:q<=1000000000:=by
    generalize 10 ^ i=p at U Y;omega
   have aF:IntKind.u8.wrap (c-48)=c-48:=IntWalk.u8_in _ τ;clear U Y;go_wp2;go_roundw
   case rel=>exact⟨i+1,τ,by go_num,by rw[an],I.o⟩
   case measure=>simp[intOf];omega
  ·obtain rfl:i=l.length:=by omega
   have ap: ¬(l.length:Int)<(l.length:Int):=by omega
   have aq:=ai.o;rw[aq];go_wp2;go_ret;exact⟨rfl,ah.o.trans I.o⟩
def RTx:qL ByteArray:=λ_ cs s=>cs=[.string s]
def Tm:QQ RTx:=λ_ _ _ _ _ h=>h
def vv (c:UInt8):Int:=if c=115 then 65535 else if c=116 then 20 else 999999999
def SlP.strs {w w':World} {G:Option Addr} {n cap:Nat} {L:List ByteArray} (h:SlP 1 RTx w (δ G n cap) L) (m:ql w w') (i:Nat) (hi:i<L.length): ∃b off,G=ϊ ⟨b,off,ϋ⟩/\w'.cell? ⟨b,off+i,ϋ⟩=ϊ (.string L[i]):=by
 obtain⟨Y,O,e,_,H,_⟩:=h;injection e with e1 e2 e3
 subst e1;obtain⟨b,off,cs,rfl,I,U,J,N⟩:=H i hi;refine⟨b,off,rfl, ?_⟩;have d:=J 0 τ;rw[V6,E9] at d;rw[m.cells _ _ I,d,show cs=[.string L[i]] from N];rfl
structure Ol (fm:ByteArray) (ws:List ByteArray) (ns:List Int):Prop where
 len:ws.length=fm.data.toList.length
 few:ws.length<=100
 pos:0<ws.length
 same:ns.length=ws.length
 ok: ∀i (h:i<ws.length) (h1:i<fm.data.toList.length) (h2:i<ns.length),NH ws[i] (vv fm.data.toList[i]) ns[i]
def Rs {ns:List Int} (h:Ol fm ws ns) (az:Option Addr) (cap:Nat) (w:World) (aB:SlP 1 RTx w (δ az ws.length cap) ws):
  Calls prog 27 #[.string fm,δ az ws.length cap] w λe w'=>(∃g cap,e= .returned (δ (ϊ ⟨g,0,ϋ⟩) ns.length cap)/\w.heap.size<=g/\g<w'.heap.size/\ ∀i y,ns[i]? =ϊ y->w'.cell? ⟨g,i,ϋ⟩=ϊ (ι y))/\ql w w':=by
 obtain⟨aR,hi,aO,aP,aQ⟩:=info_parts (P:=prog) (e:=3) (z:= ι 0) (size:=1) (bytes:=8) ξ;obtain⟨d,aY,ba,an,ao⟩:=h;have aG:=κ aB;have aI:=κ ao;have bb:(fm.size:Int)=(ws.length:Int):=by rw[d];rfl
 have aC:Hid (∀i (hi:i<ws.length) (d:i<fm.data.toList.length) (wr:World),(Instr.index 9 (.string fm) (ι (i:Int))).run prog wr= .ok (υ (fm.data.toList[i].toNat:Int)) wr):=κ (λi hi d wr=>by
  rw[run_index_string wr 9 fm .i64 (i:Int) underlying9,dif_pos ⟨τ,τ⟩]
  rfl)
 have aD:=κ d;have G:=κ an;clear ao aB d an
 go_enter func27,ntmps27
 go_wp2
 go_loopw [5,17] (λu ae wr=> ∃i:Nat,i<=ws.length/\ae= ι i/\(∃aA ay aj,u= δ aA ay aj)/\wr.ownsRow w.heap.size 3 1 u (ns.take i).length ((ns.take i).map (Value.int .i64))/\ql w wr) (λ_ ae _=>ws.length-(intOf ae).toNat)
 case atStart=>exact⟨0,τ,rfl,⟨_,_,_,rfl⟩,World.ownsRow_nil _ _ _ _,ql.refl _⟩
 case round=>
  obtain⟨i,aZ,rfl,⟨aA,ay,aj,rfl⟩,aw,av⟩:=hrel;have ah:=κ aw;have N:=κ av;clear aw av;by_cases hlt:i<ws.length
  ·have aL:(i:Int)<(ws.length:Int):=by omega
   have ar:i<fm.data.toList.length:=by have:=aD.o;omega
   have au:i<ns.length:=by have:=G.o;omega
   obtain⟨b,off,rfl,aT⟩:=aG.o.strs N.o i hlt;have ax:=aC.o i hlt ar;have O:=κ (RF (aI.o i hlt ar au));have aH:Hid (ns.take (i+1)=ns.take i++[ns[i]]):=κ (ϡ au);have bc:(ns.take i).length<=100:=by rw[Ϥ];omega
   obtain⟨c,J⟩:=ν (fm.data.toList[i]);rw[J] at ax O;obtain⟨m,ab⟩:=ν (vv c);rw[ab] at O;generalize ns[i]=y at *;generalize ns.take i=fl at *;generalize ws[i]=wd at *;clear J;obtain⟨q,ad⟩: ∃q:Int,((c.toNat:Nat):Int)=q:=⟨_,rfl⟩;rw[ad] at ax;have ak:c=115↔((c.toNat:Nat):Int)=115:=⟨λh=>by rw[h];rfl,λh=>O5.1 (by show c.toNat=115;omega)⟩;have H:c=116↔((c.toNat:Nat):Int)=116:=⟨λh=>by rw[h];rfl,λh=>O5.1 (by show c.toNat=116;omega)⟩;have aM:(q=115/\m=65535)∨(¬q=115/\q=116/\m=20)∨(¬q=115/\ ¬q=116/\m=999999999):=by
    rw[<-ab,<-ad];unfold vv;simp only[ak,H];by_cases q1:((c.toNat:Nat):Int)=115
    ·simp[q1]
    ·by_cases q2:((c.toNat:Nat):Int)=116<;>simp[q1,q2]
   clear ab ad ak H;rcases aM with ⟨rfl,rfl⟩ | ⟨n1,rfl,rfl⟩ | ⟨n1,n2,rfl⟩
   all_goals
    go_wp2_with (first | (go_at_call 36;(go_call O.o _ as e w5 ⟨rfl,af⟩;have U:=κ (N.o.trans af);have ai:=κ (jE ah.o af);clear af)) | (at_builtin;(refine qU _ rfl (.tmp 29) (.tmp 33) 57 rfl w.heap.size 3 aR (ι 0) 8 underlying57 hi aO aP aQ rfl _ .i64 fl rfl (ai.o.alloc _) _ [y] rfl (SlI.lit .i64 w5 [y] 3 _ 1 _ η rfl η η) (by simp;omega) ζ (by have:=U.o.size;simp;omega) ?_;intro bg w6 ag am _;have aF:=κ ag;have aE:Hid (ql w w6):=κ (Below.grown (U.o.al _) am (U.o.al _).size (λb aa=>jS ai.o aa));obtain⟨bd,aU,I⟩:=xl ag;rw[show (fl++[y]).length=fl.length+1 from by simp] at I;subst I;clear ag am)))
    go_roundw
    case rel=>exact⟨i+1,τ,by go_num,⟨_,_,_,rfl⟩,by rw[aH.o];exact aF.o,aE.o⟩
    case measure=>simp[intOf];omega
  ·obtain rfl:i=ws.length:=by omega
   have aL: ¬(ws.length:Int)<(ws.length:Int):=by omega
   have aJ:Hid (ns.take ws.length=ns):=κ (by rw[<-G.o,Ϩ]);go_wp2;go_ret;have ac:=ah.o;rw[aJ.o] at ac;obtain⟨be,aV,e,_,J,_⟩:=SlI.of_owns ac (by have:=G.o;omega);rcases id ac.2 with ⟨_,aX⟩ | ⟨g,aW,cur,H,aa,aK,_⟩
   ·have:=G.o;omega
   ·rw[H] at e ⊢;injection e with e3 e4 e5
    subst e3 e5;refine⟨⟨g,⟨_,rfl⟩,aa,lt_of_block aK,λi y aN=> ?_⟩,N.o⟩;obtain⟨aq,I⟩:=ϣ.1 aN;obtain⟨aS,bf,Y,_,ap⟩:=J i aq;injection Y with Y
    injection Y with e8 e9 _
    subst e8 e9;rw[G5] at ap;rw[ap,<-I];simp[aq]
def qcO (k:Int):Ending:= .panicked [{v:= .iface 35 (.int .i64 k),recovered:=ύ}]
def qcq (most:Int) (l:List UInt8):Option Int:=if 1<=l.length/\l.length<=9/\(∀c∈l,RM c=ό)/\OP l<=most then ϊ (OP l) else ϋ
def qe5 (o:Option Int):Ending:=match o with | some n=> .returned (.int .i64 n) | none=>qcO 2
def qdR {aa:Int} (h:qcq aa d.data.toList=ϋ) (w:World):
  Calls prog 36 #[.string d,ι aa] w λe w'=>e=qcO 2/\ql w w':=by
 obtain⟨l,I⟩:=ν (d.data.toList);have aA:(d.size:Int)=(l.length:Int):=by rw[To,I]
 by_cases h1:1<=l.length
 ·by_cases h9:l.length<=9
  ·obtain⟨cap,W1,ar,af,ab⟩: ∃cap W1,(convert 9 24 (.string d)).run prog w= .ok (δ (ϊ ⟨w.heap.size,0,ϋ⟩) l.length cap) W1/\(∀i (hi:i<l.length),W1.cell? ⟨w.heap.size,i,ϋ⟩=ϊ (υ (l[i].toNat:Int)))/\ql w W1:=by
    subst I;refine⟨_,_,run_bytes_of_string w 9 24 5 d underlying9 underlying24 underlying5,λi hi=> ?_,(ql.drewN w 1).al _⟩;have e:=World.cell?_alloc_mark w.drew (bytesRow d (grownCap w d.size 0 5)) 5 ((bytesRow d (grownCap w d.size 0 5)).size,(bytesRow d (grownCap w d.size 0 5)).size+1) i;refine e.trans ?_;rw[bytesRow_at d _ i (by simpa using hi)];simp
   have am:=κ af;have ap:=κ (OX l)
   have ao:Hid ((∀c∈l,RM c=ό)->aa<OP l):=κ (λH=>by
    unfold qcq at h;rw[I] at h;split at h
    ·cases h
    ·rename_i aw
     refine Int.not_le.1 λav=>aw ⟨h1,h9,H,av⟩)
   have an:Hid (∀i,(∀c∈l.take i,RM c=ό)->i<=l.length->0<=OP (l.take i)/\OP (l.take i)<((10 ^ i:Nat):Int)):=κ (λi H hi=>by
    have:=RR (l.take i) H i (by rw[Ϥ];omega);rw[P8,X2] at this
    exact this)
   have ak: ¬(l.length:Int)<1:=by omega
   have ax: ¬(9:Int)<(l.length:Int):=by omega
   have U:=κ ab;clear af I ab h
   go_enter func36,ntmps36
   go_wp2
   go_loopw [5,20] (λu Y wr=> ∃i:Nat,i<=l.length/\Y= ι i/\u= ι (OP (l.take i))/\(∀c∈l.take i,RM c=ό)/\ql W1 wr) (λ_ Y _=>l.length-(intOf Y).toNat)
   case atStart=>exact⟨0,τ,rfl,rfl,(λc G=>by simp at G),ql.refl _⟩
   case round=>
    obtain⟨i,hi,rfl,rfl,ah,aj⟩:=hrel;have N:=κ aj;have O:=κ ah;clear aj ar ah;by_cases hlt:i<l.length
    ·have au:(i:Int)<(l.length:Int):=by omega
     have az:wr.cell? ⟨w.heap.size,i,ϋ⟩=ϊ (υ (l[i].toNat:Int)):=by
      have e:=am.o i hlt;rw[N.o.cells _ _ (Gb e).2];exact e
     obtain⟨ay,ac⟩:=an.o i O.o τ;have ad:10 ^ i<=10 ^ 9:=C9 ζ τ;have aq:=ap.o i hlt;have ae:RM l[i]=ό-> ∀c∈l.take (i+1),RM c=ό:=λh c G=>by
      rw[ϡ hlt] at G;rcases Ϫ.1 G with G | G
      ·exact O.o c G
      ·rw[A8] at G;rw[G];exact h
     have J:=κ ae;have ag:RM l[i]=(decide ((48:Int)<=(l[i].toNat:Int))&&decide ((l[i].toNat:Int)<=57)):=by
      unfold RM
      congr 1
      ·exact decide_eq_decide.2 τ
      ·exact decide_eq_decide.2 τ
     rw[ag] at J;clear ag ae;generalize OP (l.take i)=q at *;generalize ((l[i].toNat:Nat):Int)=c at *;have aD:q<=1000000000:=by
      generalize 10 ^ i=p at ac ad;omega
     clear ac ad;by_cases k1:c<48
     ·go_wp2;exact⟨rfl,rfl,U.o.trans N.o⟩
     ·by_cases k2:57<c
      ·go_wp2;exact⟨rfl,rfl,U.o.trans N.o⟩
      ·have aC:IntKind.u8.wrap (c-48)=c-48:=IntWalk.u8_in _ τ;have ai:=J.o (by simp;omega);clear J;have J:=κ ai;clear ai;go_wp2;go_roundw
       case rel=>exact⟨i+1,τ,by go_num,by rw[aq],J.o,N.o⟩
       case measure=>simp[intOf];omega
    ·obtain rfl:i=l.length:=by omega
     have au: ¬(l.length:Int)<(l.length:Int):=by omega
     have H:=O.o;rw[Ϩ] at H ⊢;have aB:=ao.o H;clear H;go_wp2;exact⟨rfl,rfl,U.o.trans N.o⟩
  ·have ak: ¬(l.length:Int)<1:=by omega
   have ax:(9:Int)<(l.length:Int):=by omega
   clear h I h1 h9
   go_enter func36,ntmps36
   go_wp2;exact⟨rfl,rfl,ql.refl _⟩
 ·have ak:(l.length:Int)<1:=by omega
  clear h I h1
  go_enter func36,ntmps36
  go_wp2;exact⟨rfl,rfl,ql.refl _⟩
def qdu (H:ByteArray) (G:Int) (w:World):
  Calls prog 36 #[.string H,ι G] w λe w'=>e=qe5 (qcq G H.data.toList)/\ql w w':=by
 cases h:qcq G H.data.toList with
 | none=>exact qdR h w
 | some n=>
  unfold qcq at h;split at h
  ·rename_i d;injection h with h
   exact RF ⟨d.1,d.2.1,d.2.2.1,h,by rw[<-h];exact d.2.2.2⟩ w
  ·cases h
def cmdL:List (List UInt8×List UInt8):=[([114,111,111,109],[110,110,110,110,110,110]),([112,117,98,108,105,115,104],[110,110,110,110]),([106,111,105,110],[110,110,115,110]),([116,97,107,101],[110,110,110]),([119,97,110,116],[110,110]),([107,101,121],[110,115,110]),([100,101,108,116,97],[110,115,110]),([108,101,97,118,101],[110]),([112,108,105],[110]),([99,104,111,111,115,101],[110]),([114,101,119,114,105,116,101],[110]),([119,114,105,116,101],[110]),([114,101,102,117,115,101],[110]),([102,97,116,101,115],[110]),([119,114,111,116,101],[110]),([116,105,99,107],[116]),([116,117,114,110],[116]),([106,117,110,107],[]),([114,101,97,100],[]),([111,114,100,101,114],[]),([115,104,117,116,100,111,119,110],[]),([99,111,117,110,116,115],[]),([97,115,107,115],[]),([101,110,100,101,100],[])]
def BC (nm:ByteArray):Option ByteArray:=(cmdL.find? λp=>p.1==nm.data.toList).map λp=>⟨p.2.toArray⟩
def qc5 (d:ByteArray):d=⟨#[114,111,111,109]⟩∨d=⟨#[112,117,98,108,105,115,104]⟩∨d=⟨#[106,111,105,110]⟩∨d=⟨#[116,97,107,101]⟩∨d=⟨#[119,97,110,116]⟩∨d=⟨#[107,101,121]⟩∨d=⟨#[100,101,108,116,97]⟩∨d=⟨#[108,101,97,118,101]⟩∨d=⟨#[112,108,105]⟩∨d=⟨#[99,104,111,111,115,101]⟩∨d=⟨#[114,101,119,114,105,116,101]⟩∨d=⟨#[119,114,105,116,101]⟩∨d=⟨#[114,101,102,117,115,101]⟩∨d=⟨#[102,97,116,101,115]⟩∨d=⟨#[119,114,111,116,101]⟩∨d=⟨#[116,105,99,107]⟩∨d=⟨#[116,117,114,110]⟩∨d=⟨#[106,117,110,107]⟩∨d=⟨#[114,101,97,100]⟩∨d=⟨#[111,114,100,101,114]⟩∨d=⟨#[115,104,117,116,100,111,119,110]⟩∨d=⟨#[99,111,117,110,116,115]⟩∨d=⟨#[97,115,107,115]⟩∨d=⟨#[101,110,100,101,100]⟩∨ ∀p∈cmdL,(d.toList==p.1)=ύ:=by
 by_cases h: ∃p∈cmdL,d.data.toList=p.1
 ·obtain⟨p,G,e⟩:=h;have H:d=⟨p.1.toArray⟩:=by rw[<-e]
  rw[H];simp only[cmdL,Ϟ,Ϻ,or_false] at G;rcases G with rfl | rfl | rfl | rfl | rfl | rfl | rfl | rfl | rfl | rfl | rfl | rfl | rfl | rfl | rfl | rfl | rfl | rfl | rfl | rfl | rfl | rfl | rfl | rfl<;>simp
 ·iterate 24 (refine ϕ ?_)
  intro p G;cases hq:(d.toList==p.1) with
  | false=>rfl
  | true=>exact ϧ ⟨p,G,by rw[<-ByteArray.toList_eq];exact eq_of_beq hq⟩ h
def qd3 (o:Option ByteArray):Ending:=match o with | some f=> .returned (.string f) | none=>qcO 2
def qch (d:ByteArray) (w:World):Calls prog 28 #[.string d] w λe w'=>e=qd3 (BC d)/\w'=w:=by
 rcases qc5 d with rfl | rfl | rfl | rfl | rfl | rfl | rfl | rfl | rfl | rfl | rfl | rfl | rfl | rfl | rfl | rfl | rfl | rfl | rfl | rfl | rfl | rfl | rfl | rfl | h
 ·go_enter func28,ntmps28
  go_wp2;go_ret;exact⟨rfl,rfl⟩
 ·go_enter func28,ntmps28
  go_wp2;go_ret;exact⟨rfl,rfl⟩
 ·go_enter func28,ntmps28
  go_wp2;go_ret;exact⟨rfl,rfl⟩
 ·go_enter func28,ntmps28
  go_wp2;go_ret;exact⟨rfl,rfl⟩
 ·go_enter func28,ntmps28
  go_wp2;go_ret;exact⟨rfl,rfl⟩
 ·go_enter func28,ntmps28
  go_wp2;go_ret;exact⟨rfl,rfl⟩
 ·go_enter func28,ntmps28
  go_wp2;go_ret;exact⟨rfl,rfl⟩
 ·go_enter func28,ntmps28
  go_wp2;go_ret;exact⟨rfl,rfl⟩
 ·go_enter func28,ntmps28
  go_wp2;go_ret;exact⟨rfl,rfl⟩
 ·go_enter func28,ntmps28
  go_wp2;go_ret;exact⟨rfl,rfl⟩
 ·go_enter func28,ntmps28
  go_wp2;go_ret;exact⟨rfl,rfl⟩
 ·go_enter func28,ntmps28
  go_wp2;go_ret;exact⟨rfl,rfl⟩
 ·go_enter func28,ntmps28
  go_wp2;go_ret;exact⟨rfl,rfl⟩
 ·go_enter func28,ntmps28
  go_wp2;go_ret;exact⟨rfl,rfl⟩
 ·go_enter func28,ntmps28
  go_wp2;go_ret;exact⟨rfl,rfl⟩
 ·go_enter func28,ntmps28
  go_wp2;go_ret;exact⟨rfl,rfl⟩
 ·go_enter func28,ntmps28
  go_wp2;go_ret;exact⟨rfl,rfl⟩
 ·go_enter func28,ntmps28
  go_wp2;go_ret;exact⟨rfl,rfl⟩
 ·go_enter func28,ntmps28
  go_wp2;go_ret;exact⟨rfl,rfl⟩
 ·go_enter func28,ntmps28
  go_wp2;go_ret;exact⟨rfl,rfl⟩
 ·go_enter func28,ntmps28
  go_wp2;go_ret;exact⟨rfl,rfl⟩
 ·go_enter func28,ntmps28
  go_wp2;go_ret;exact⟨rfl,rfl⟩
 ·go_enter func28,ntmps28
  go_wp2;go_ret;exact⟨rfl,rfl⟩
 ·go_enter func28,ntmps28
  go_wp2;go_ret;exact⟨rfl,rfl⟩
 ·have G:BC d=ϋ:=by
   unfold BC
   rw[P5.2 (λp ar=>by
    have:=h p ar;rw[ByteArray.toList_eq] at this;intro e;rw[P6] at e;rw[e,beq_self_eq_true] at this
    cases this)]
   rfl
  rw[G];have H:=h ([114,111,111,109],[110,110,110,110,110,110]) (by simp[cmdL]);simp only at H;have I:=h ([112,117,98,108,105,115,104],[110,110,110,110]) (by simp[cmdL]);simp only at I;have af:=h ([106,111,105,110],[110,110,115,110]) (by simp[cmdL]);simp only at af;have ak:=h ([116,97,107,101],[110,110,110]) (by simp[cmdL]);simp only at ak;have al:=h ([119,97,110,116],[110,110]) (by simp[cmdL]);simp only at al;have am:=h ([107,101,121],[110,115,110]) (by simp[cmdL]);simp only at am;have an:=h ([100,101,108,116,97],[110,115,110]) (by simp[cmdL]);simp only at an;have ao:=h ([108,101,97,118,101],[110]) (by simp[cmdL]);simp only at ao;have ap:=h ([112,108,105],[110]) (by simp[cmdL]);simp only at ap;have aq:=h ([99,104,111,111,115,101],[110]) (by simp[cmdL]);simp only at aq;have J:=h ([114,101,119,114,105,116,101],[110]) (by simp[cmdL]);simp only at J;have N:=h ([119,114,105,116,101],[110]) (by simp[cmdL]);simp only at N;have O:=h ([114,101,102,117,115,101],[110]) (by simp[cmdL]);simp only at O;have U:=h ([102,97,116,101,115],[110]) (by simp[cmdL]);simp only at U;have Y:=h ([119,114,111,116,101],[110]) (by simp[cmdL]);simp only at Y;have aa:=h ([116,105,99,107],[116]) (by simp[cmdL]);simp only at aa;have ab:=h ([116,117,114,110],[116]) (by simp[cmdL]);simp only at ab;have ac:=h ([106,117,110,107],[]) (by simp[cmdL]);simp only at ac;have ad:=h ([114,101,97,100],[]) (by simp[cmdL]);simp only at ad;have ae:=h ([111,114,100,101,114],[]) (by simp[cmdL]);simp only at ae;have ag:=h ([115,104,117,116,100,111,119,110],[]) (by simp[cmdL]);simp only at ag;have ah:=h ([99,111,117,110,116,115],[]) (by simp[cmdL]);simp only at ah;have ai:=h ([97,115,107,115],[]) (by simp[cmdL]);simp only at ai;have aj:=h ([101,110,100,101,100],[]) (by simp[cmdL]);simp only at aj;clear h G
  go_enter func28,ntmps28
  go_wp2;exact⟨rfl,rfl,rfl⟩
def xb:List UInt8->List ByteArray->Option (List Int)
 | [],[]=>ϊ []
 | c::f,x::ws=>match qcq (vv c) x.data.toList with
  | none=>ϋ
  | some n=>(xb f ws).map (n:: ·)
 | _,_=>ϋ
def qcY: ∀{f:List UInt8} {ws:List ByteArray} {ns:List Int},xb f ws=ϊ ns->ws.length=f.length/\ns.length=f.length
 | [],[],ns,h=>by
  injection h with h
  subst h;exact⟨rfl,rfl⟩
 | c::f,x::ws,ns,h=>by
  unfold xb at h;split at h
  ·cases h
  ·cases hq:xb f ws with
   | none=>rw[hq] at h;cases h
   | some l=>
    rw[hq] at h;injection h with h
    obtain⟨d,G⟩:=qcY hq;rw[<-h];exact⟨by simp[d],by simp[G]⟩
 | [],_::_,ns,h=>by simp[xb] at h
 | _::_,[],ns,h=>by simp[xb] at h
def qdg: ∀{f:List UInt8} {ws:List ByteArray} {ns:List Int},xb f ws=ϊ ns-> ∀i (d:i<ws.length) (G:i<f.length) (H:i<ns.length),qcq (vv f[i]) ws[i].data.toList=ϊ ns[i]
 | [],[],ns,h=>λi d=>by simp at d
 | c::f,x::ws,ns,h=>by
  unfold xb at h;split at h
  ·cases h
  ·rename_i n I;cases hq:xb f ws with
   | none=>rw[hq] at h;cases h
   | some l=>
    rw[hq] at h;injection h with h
    subst h;intro i d G H;cases i with
    | zero=>exact I
    | succ i=>exact qdg hq i (by simpa using d) (by simpa using G) (by simpa using H)
 | [],_::_,ns,h=>by simp[xb] at h
 | _::_,[],ns,h=>by simp[xb] at h
def qdf: ∀{f:List UInt8} {ws:List ByteArray},xb f ws=ϋ->ws.length=f.length-> ∃i,∃d:i<ws.length,∃G:i<f.length,qcq (vv f[i]) ws[i].data.toList=ϋ
 | [],[],h,_=>by simp[xb] at h
 | c::f,x::ws,h,hl=>by
  unfold xb at h;split at h
  ·rename_i I;exact⟨0,η,η,I⟩
  ·cases hq:xb f ws with
   | none=>
    obtain⟨i,d,G,H⟩:=qdf hq (by simpa using hl);exact⟨i+1,by simpa using d,by simpa using G,H⟩
   | some l=>rw[hq] at h;cases h
 | [],_::_,_,hl=>by simp at hl
 | _::_,[],_,hl=>by simp at hl
def qdA {H:ByteArray} {G n:Int} (h:qcq G H.data.toList=ϊ n):NH H G n:=by
 unfold qcq at h;split at h
 ·rename_i d;injection h with h
  exact⟨d.1,d.2.1,d.2.2.1,h,by rw[<-h];exact d.2.2.2⟩
 ·cases h
def qcL (h:xb fm.data.toList ws=ϋ) (am:fm.data.toList.length<=100) (ax:Option Addr) (cap:Nat) (w:World) (O:SlP 1 RTx w (δ ax ws.length cap) ws):
  Calls prog 27 #[.string fm,δ ax ws.length cap] w λe w'=>e=qcO 2/\ql w w':=by
 by_cases hl:ws.length=fm.data.toList.length
 ·obtain⟨aN,hi,aK,aL,aM⟩:=info_parts (P:=prog) (e:=3) (z:= ι 0) (size:=1) (bytes:=8) ξ;obtain⟨N,aU,aV,aj⟩:=qdf h hl;have aF:=κ O;have aJ:(fm.size:Int)=(ws.length:Int):=by rw[hl];rfl
  have aA:Hid (∀i (hi:i<ws.length) (aG:i<fm.data.toList.length) (wr:World),(Instr.index 9 (.string fm) (ι (i:Int))).run prog wr= .ok (υ (fm.data.toList[i].toNat:Int)) wr):=κ (λi hi aG wr=>by
   rw[run_index_string wr 9 fm .i64 (i:Int) underlying9,dif_pos ⟨τ,τ⟩]
   rfl)
  have aB:=κ hl;have az:=κ aj;have aS:ws.length<=100:=by omega
  clear O h hl aj am
  go_enter func27,ntmps27
  go_wp2
  go_loopw [5,17] (λu ab wr=> ∃i:Nat,i<=N/\ab= ι i/\(∃ay aw ae,u= δ ay aw ae)/\(∃d:List Int,d.length=i/\wr.ownsRow w.heap.size 3 1 u d.length (d.map (Value.int .i64)))/\ql w wr) (λ_ ab _=>ws.length-(intOf ab).toNat)
  case atStart=>exact⟨0,τ,rfl,⟨_,_,_,rfl⟩,⟨[],rfl,World.ownsRow_nil _ _ _ _⟩,ql.refl _⟩
  case round=>
   obtain⟨i,aX,rfl,⟨ay,aw,ae,rfl⟩,⟨d,an,au⟩,aq⟩:=hrel;have aD:=κ au;have U:=κ aq;clear au aq;have ao:i<ws.length:=by omega
   have aY:(i:Int)<(ws.length:Int):=by omega
   have aI:i<fm.data.toList.length:=by have:=aB.o;omega
   obtain⟨b,off,rfl,aP⟩:=aF.o.strs U.o i ao;have av:=aA.o i ao aI;have G:=κ (λw'=>qdu ws[i] (vv fm.data.toList[i]) w');have J:Hid (i=N->qcq (vv fm.data.toList[i]) ws[i].data.toList=ϋ):=κ (λe=>by subst e;exact az.o);have ba:d.length<=100:=by omega
   obtain⟨c,ak⟩:=ν (fm.data.toList[i]);rw[ak] at av G J;obtain⟨m,Y⟩:=ν (vv c);rw[Y] at G J;generalize ws[i]=wd at *;clear ak;obtain⟨q,aa⟩: ∃q:Int,((c.toNat:Nat):Int)=q:=⟨_,rfl⟩;rw[aa] at av;have af:c=115↔((c.toNat:Nat):Int)=115:=⟨λh=>by rw[h];rfl,λh=>O5.1 (by show c.toNat=115;omega)⟩;have ag:c=116↔((c.toNat:Nat):Int)=116:=⟨λh=>by rw[h];rfl,λh=>O5.1 (by show c.toNat=116;omega)⟩;have ap:(q=115/\m=65535)∨(¬q=115/\q=116/\m=20)∨(¬q=115/\ ¬q=116/\m=999999999):=by
    rw[<-Y,<-aa];unfold vv;simp only[af,ag];by_cases q1:((c.toNat:Nat):Int)=115
    ·simp[q1]
    ·by_cases q2:((c.toNat:Nat):Int)=116<;>simp[q1,q2]
   clear Y aa af ag;obtain⟨aO,ar⟩:=ν (qcq m wd.data.toList);rw[ar] at G J;clear ar;cases aO with
   | none=>
    simp only[qe5,qcO] at G;rcases ap with ⟨rfl,rfl⟩ | ⟨n1,rfl,rfl⟩ | ⟨n1,n2,rfl⟩
    all_goals
     go_wp2_with ((go_at_call 36;(go_call G.o _ as e w5 ⟨rfl,H⟩;have I:=κ (U.o.trans H);clear H)))
     exact⟨rfl,rfl,I.o⟩
   | some y=>
    simp only[qe5] at G;have aZ:i<N:=by
     rcases S3 i N with h | h
     ·exact h
     ·exact ϧ (J.o τ) η
    rcases ap with ⟨rfl,rfl⟩ | ⟨n1,rfl,rfl⟩ | ⟨n1,n2,rfl⟩
    all_goals
     go_wp2_with (first | (go_at_call 36;(go_call G.o _ as e w5 ⟨rfl,H⟩;have I:=κ (U.o.trans H);have ad:=κ (jE aD.o H);clear H)) | (at_builtin;(refine qU _ rfl (.tmp 29) (.tmp 33) 57 rfl w.heap.size 3 aN (ι 0) 8 underlying57 hi aK aL aM rfl _ .i64 d rfl (ad.o.alloc _) _ [y] rfl (SlI.lit .i64 w5 [y] 3 _ 1 _ η rfl η η) (by simp;omega) ζ (by have:=I.o.size;simp;omega) ?_;intro bd w6 ac ai _;have aE:=κ ac;have aC:Hid (ql w w6):=κ (Below.grown (I.o.al _) ai (I.o.al _).size (λb aH=>jS ad.o aH));obtain⟨bb,aQ,ah⟩:=xl ac;rw[show (d++[y]).length=d.length+1 from by simp] at ah;subst ah;clear ac ai)))
     go_roundw
     case rel=>exact⟨i+1,τ,by go_num,⟨_,_,_,rfl⟩,⟨d++[y],by simp[an],by have h:=aE.o;rw[an] at h;exact h⟩,aC.o⟩
     case measure=>simp[intOf];omega
 ·have aJ: ¬(ws.length:Int)=(fm.size:Int):=by
   have:(fm.size:Int)=(fm.data.toList.length:Int):=rfl;omega
  have aT:ws.length<=9223372036854775807:=by obtain⟨bc,aR,e,aW,_⟩:=O;omega
  clear O h am hl
  go_enter func27,ntmps27
  go_wp2;exact⟨rfl,rfl,ql.refl _⟩
def qdl (G:Option Addr) (cap:Nat) (w:World):
  Calls prog 27 #[.string ⟨#[]⟩,δ G 0 cap] w λe w'=>e= .returned (δ ϋ 0 0)/\ql w w':=by
 go_enter func27,ntmps27
 go_wp2
 go_loopw [5,17] (λu d wr=>d= ι 0/\u= δ ϋ 0 0/\wr=w) (λ_ _ _=>0)
 case atStart=>exact⟨rfl,rfl,rfl⟩
 case round=>
  obtain⟨rfl,rfl,rfl⟩:=hrel;go_wp2;go_ret;exact⟨rfl,ql.refl _⟩
def qe6 (B:Nat) (w:World) (v:Value) (ns:List Int):Prop:= ∃og cap,v= .slice og ns.length cap/\(ns=[]/\og=ϋ/\cap=0∨ ∃g,og=ϊ ⟨g,0,ϋ⟩/\ns≠[]/\B<=g/\g<w.heap.size/\ ∀i y,ns[i]? =ϊ y->w.cell? ⟨g,i,ϋ⟩=ϊ (.int .i64 y))
def qe7 (B:Nat) (o:Option (List Int)) (e:Ending) (w':World):Prop:=match o with | some ns=> ∃v,e= .returned v/\qe6 B w' v ns | none=>e=qcO 2
def qcp (ab:fm.data.toList.length<=100) (d:Option Addr) (cap:Nat) (w:World) (H:SlP 1 RTx w (δ d ws.length cap) ws):
  Calls prog 27 #[.string fm,δ d ws.length cap] w λe w'=>qe7 w.heap.size (xb fm.data.toList ws) e w'/\ql w w':=by
 cases h:xb fm.data.toList ws with
 | none=>exact qcL h ab d cap w H
 | some ns=>
  obtain⟨aa,G⟩:=qcY h;by_cases hz:fm.data.toList.length=0
  ·have O:ns=[]:=Ϡ τ;have U:ws.length=0:=by omega
   have Y:fm=⟨#[]⟩:=by
    have:=Ϡ hz;cases fm;simp at this;rw[this]
   subst O Y;rw[U];exact(qdl d cap w).mono λe w' ⟨a,b⟩=>⟨⟨_,a,ϋ,0,rfl,ϑ ⟨rfl,rfl,rfl⟩⟩,b⟩
  ·refine(Rs (fm:=fm) (ws:=ws) (ns:=ns) ⟨aa,τ,τ,τ,λi a b c=>qdA (qdg h i a b c)⟩ d cap w H).mono ?_;rintro e w' ⟨⟨g,c,rfl,I,J,N⟩,m⟩;exact⟨⟨_,rfl,ϊ ⟨g,0,ϋ⟩,c,rfl,ϕ ⟨g,rfl,(λe=>by rw[e] at G;exact hz G.symm),I,J,N⟩⟩,m⟩
end Go.Proofs.YtmgaiiffmheabaaGreatDoor
