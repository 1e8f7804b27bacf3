/- Contracts of the functions that the law reaches, and plain laws; no conditions but those written at each. -/
import Derived.Test.YtlmllmonabafjaaGreatDoorMg25
import Derived.Laws.IdiomStrings
import Derived.Defers
import Derived.Recover
import Derived.Laws.Concat
import Derived.Shelf.Strings.Split
import Derived.Shelf.Strings.OnBuilder
import Derived.Shelf.Strconv.Itoa3
import Derived.Shelf.LaysM
namespace Go.Proofs.YtlmllmonabafjaaGreatDoor
open Go.Value renaming bool->μ,slice->δ,pointer->π,agg->θ
open Go.IntKind renaming i64->ι,u8->υ,u16->φ,u32->ω,i32->χ,u64->ψ
open _root_.Go.Proofs.Tryz
set_option linter.unusedSimpArgs false
set_option maxHeartbeats 8000000
set_option linter.unusedVariables false
open Go.RowKit
set_option maxRecDepth 100000
theorem NX {d w:World} {R:Nat} {s:RmS} {F:List Nat} (h:RmR d w R s F):Calls prog 26 #[γ R] w λe w'=> ∃v,e= .returned v/\je 2 RO (λ_=>False) w' w.heap.size 37 v s.workers/\qa w w':=by
 obtain⟨k,rfl,T,vp,G,h⟩:=h;exact N9 h
theorem Rg: ∀(w:World) (cs:List Value) (y:Og),RO w cs y-> ∀u∈cs,u.oneCell'=true:=by
 rintro w cs y h u d;obtain rfl:cs=[ι y.1,ι y.2]:=h;simp at d;rcases d with rfl | rfl<;>rfl
theorem Oz (L:List Og) (i k:Nat) (h:k<L.length):(V8 L i).take (k+1)=(V8 L i).take k++[L.getD ((i+k)%L.length) (0,0)]:=by
 rw[List.take_succ_eq_append_getElem (by rw[NH];exact h)]
 congr 2
 unfold V8;rw[List.getElem_map,List.getElem_range]
theorem Sf {aU w:World} {R:Nat} {s:RmS} {F:List Nat} (h:RmR aU w R s F) (n:Nat) (bf:n<=112) (v:Value) (M:List Og) (aj:SlP 2 RO w v M) (aZ:M.length<=20):
  Calls prog 29 #[γ R,ι (n:Int),v] w λe w'=>(∃v',e= .returned (.tuple #[v',ι ((M.length:Int)+(s.workers.length:Int))])/\je 2 RO (λ_=>False) w' w.heap.size 37 v' (yw s.workers M n))/\qa w w':=by
 obtain⟨au,hi,ap,aq,ar⟩:=info_parts (P:=prog) (e:=37) (z:= θ #[ι 0,ι 0]) (size:=2) (bytes:=16) ξ;have ak:=κ (NX h);have aM:=Wx s;obtain⟨L,ah⟩:=ν (s.workers);rw[ah] at ak aM;rw[ah];have aC:=κ aj;obtain⟨bk,aV,rfl,_⟩:=id aj;clear h ah aj
 go_enter func29,ntmps29
 go_wp2_with ((go_at_call 26;(go_call ak.o as e w1 ⟨v1,rfl,ax,aw⟩;obtain⟨bj,cap,rfl,av⟩:=LP ax;have aE:=κ av;have ac:=κ aw;clear ax av aw)))
 go_loopw [9,15] (λu I wr=> ∃i:Nat,i<=n/\I= ι i/\(∃O N J,u= δ O N J)/\je 2 RO (λ_=>False) wr w1.heap.size 37 u (yw L M i)/\qa w1 wr) (λ_ I _=>n-(intOf I).toNat)
 case atStart=>exact⟨0,τ,rfl,⟨_,_,_,rfl⟩,je.nil _ _ _ _ _ _,qa.refl _⟩
 case round=>
  obtain⟨i,bc,rfl,⟨O,N,J,rfl⟩,ab,aa⟩:=hrel;have G:=κ ab;have d:=κ aa;clear ab aa;by_cases hlt:i<n
  ·have aK:(i:Int)<(n:Int):=by omega
   have bb:i<=111:=by omega
   have be:(yw L M i).length<=4480:=by
    rw[NL];have aX:i* (M.length+L.length)<=112* (M.length+L.length):=Nat.mul_le_mul_right _ τ;omega
   have az:Hid (yw L M (i+1)=yw L M i++(M++V8 L i)):=κ rfl;generalize yw L M i=B at *
   go_upto_block 7 with (at_builtin;(refine EO w _ rfl (.tmp 18) (.tmp 19) 98 rfl w1.heap.size 37 au (θ #[ι 0,ι 0]) 2 16 underlying98 hi ap aq ar rfl ζ OE Rg _ B rfl G.o _ M rfl aC.o (ac.o.trans d.o) (λb ai=>Nat.le_trans ac.o.size (G.o.ge ai)) ζ τ d.o.size ?_;intro v5 w5 H Y aP;have am:Hid (qa w1 w5):=κ (d.o.grown Y d.o.size (λz aQ=>G.o.ge aQ));obtain⟨bi,bg,c5,rfl,ao,_⟩:=H.shape;rw[List.length_append] at ao;subst ao;have an:=κ H;clear H Y aP))
   go_loopw [9,23] (λu I wr=> ∃k:Nat,k<=L.length/\I= ι k/\(∃O N J,u= δ O N J)/\je 2 RO (λ_=>False) wr w1.heap.size 37 u (B++(M++(V8 L i).take k))/\qa w1 wr) (λ_ I _=>L.length-(intOf I).toNat)
   case atStart=>exact⟨0,τ,rfl,⟨_,_,_,rfl⟩,by rw[List.take_zero,List.append_nil];exact an.o,am.o⟩
   case round=>
    clear G d an am;obtain⟨k,bd,rfl,⟨O,N,J,rfl⟩,ab,aa⟩:=hrel;have G:=κ ab;have d:=κ aa;clear ab aa;by_cases hlt2:k<L.length
    ·have aL:(k:Int)<(L.length:Int):=by omega
     have aO:0<L.length:=by omega
     have aN:((i:Int)+(k:Int))%(L.length:Int)=(((i+k)%L.length:Nat):Int):=by rw[Int.natCast_emod];rfl
     have ag:=Nat.mod_lt (i+k) aO;have af:=κ (Oz L i k hlt2);obtain⟨U,aI⟩:=ν ((i+k)%L.length);rw[aI] at aN ag af;have aY:(U:Int)<(L.length:Int):=by omega
     obtain⟨b,rfl,aG,aH⟩:=aE.o.2 _ d.o U ag;have aJ:L.getD U (0,0)=L[U]:=by rw[List.getD_eq_getElem?_getD,List.getElem?_eq_getElem ag];rfl
     rw[aJ] at af;generalize L[U]=y at *;obtain⟨ad,ae⟩:=y;simp only at aG aH;have ba:(B++(M++(V8 L i).take k)).length<=4520:=by
      rw[List.length_append,List.length_append,List.length_take,NH];omega
     have aD:Hid (B++(M++(V8 L i).take (k+1))=(B++(M++(V8 L i).take k))++[(ad,ae)]):=κ (by rw[af.o];simp[List.append_assoc]);generalize B++(M++(V8 L i).take k)=C at *;have aB:=κ (G.o.on (qa.alloc wr (.cells #[ι ad,ι ae] 37)));have aA:Hid (∀b,(δ O N J).ownBlock=some b->w1.heap.size<=b):=κ (λb h=>G.o.ge h)
     go_wp2_with (at_builtin;(refine jN (R:=RO) (D:=λ_=>False) _ rfl (.tmp 26) (.tmp 36) 98 rfl w1.heap.size 37 au (θ #[ι 0,ι 0]) 2 16 underlying98 hi ap aq ar rfl ζ _ C rfl aB.o wr.heap.size [ι ad,ι ae] (ad,ae) rfl rfl (zS η) (by simp[Value.oneCell']) (λw' _=>rfl) (λb h=>h.elim) ζ τ (d.o.al _).size ?_;intro v' w8 H Y ai;have aT:Hid (qa w1 w8):=κ (Below.grown (d.o.al _) Y (d.o.al _).size aA.o);obtain⟨bl,bh,aW,rfl,aR,aS⟩:=H.shape;have aF:=κ H;clear H Y ai aR aS))
     go_roundw
     case rel=>exact⟨k+1,τ,by go_num,⟨_,_,_,rfl⟩,by rw[aD.o];exact aF.o,aT.o⟩
     case measure=>simp[intOf];omega
    ·obtain rfl:k=L.length:=by omega
     have aL: ¬(L.length:Int)<(L.length:Int):=by omega
     have ay:Hid (B++(M++(V8 L i).take L.length)=B++(M++V8 L i)):=κ (by rw[<-NH L i,List.take_length]);go_wp2;go_roundw
     case rel=>exact⟨i+1,τ,by go_num,⟨_,_,_,rfl⟩,by rw[az.o,<-ay.o];exact G.o,d.o⟩
     case measure=>simp[intOf];omega
  ·obtain rfl:i=n:=by omega
   have aK: ¬(i:Int)<(i:Int):=by omega
   go_wp2
   go_ret2
   exact⟨⟨_,rfl,G.o.low ac.o.size⟩,ac.o.trans d.o⟩
def RT (n:Int) (c:UInt8):Int:=10* n+((c.toNat:Int)-48)
def NV (l:List UInt8):Int:=l.foldl RT 0
def Ot (c:UInt8):Bool:=decide (48<=c.toNat)&&decide (c.toNat<=57)
theorem NZ (l:List UInt8) (i:Nat) (h:i<l.length):NV (l.take (i+1))=10* NV (l.take i)+((l[i].toNat:Int)-48):=by
 unfold NV;rw[List.take_succ_eq_append_getElem h,List.foldl_append];rfl
theorem Ov (l:List UInt8) (G: ∀c∈l,Ot c=true): ∀i,i<=l.length->0<=NV (l.take i)/\NV (l.take i)<((10 ^ i:Nat):Int)
 | 0,_=>by simp[NV]
 | i+1,h=>by
  obtain⟨H,I⟩:=Ov l G i τ;have d:=G _ (List.getElem_mem (show i<l.length by omega));unfold Ot at d;rw[Bool.and_eq_true] at d;have J:=of_decide_eq_true d.1;have N:=of_decide_eq_true d.2;rw[NZ l i τ,Nat.pow_succ];generalize 10 ^ i=p at *;omega
structure RZ (wd:ByteArray) (most n:Int):Prop where
 pos:1<=wd.data.toList.length
 few:wd.data.toList.length<=9
 dig: ∀c∈wd.data.toList,Ot c=true
 val:NV wd.data.toList=n
 le:n<=most
theorem Ra (s:ByteArray):s.size=s.data.toList.length:=rfl
theorem Oq {d:ByteArray} {ad n:Int} (h:RZ d ad n) (w:World):
  Calls prog 214 #[.string d,ι ad] w λe w'=>e= .returned (ι n)/\qa w w':=by
 obtain⟨ak,am,J,ac,az⟩:=h;obtain⟨l,G⟩:=ν (d.data.toList);obtain⟨cap,W1,ao,aa,O⟩: ∃cap W1,(convert 9 35 (.string d)).run prog w= .ok (δ (some ⟨w.heap.size,0,none⟩) l.length cap) W1/\(∀i (hi:i<l.length),W1.cell? ⟨w.heap.size,i,none⟩=some (υ (l[i].toNat:Int)))/\qa w W1:=by
  subst G;refine⟨_,_,run_bytes_of_string w 9 35 5 d underlying9 underlying35 underlying5,λi hi=> ?_,(qa.drewN w 1).al _⟩;have e:=World.cell?_alloc_mark w.drew (bytesRow d (grownCap w d.size 0 5)) 5 ((bytesRow d (grownCap w d.size 0 5)).size,(bytesRow d (grownCap w d.size 0 5)).size+1) i;refine e.trans ?_;rw[bytesRow_at d _ i (by simpa using hi)];simp
 have af:=κ aa
 have ag:Hid (∀i (hi:i<l.length),(48:Int)<=l[i].toNat/\(l[i].toNat:Int)<=57):=κ (λi hi=>by
  subst G;have H:=J _ (List.getElem_mem hi);unfold Ot at H;rw[Bool.and_eq_true] at H;have ax:=of_decide_eq_true H.1;have ay:=of_decide_eq_true H.2
  omega)
 have ae:=κ (Ov l (by rw[<-G];exact J));have aj:=κ (NZ l);have ai:Hid (NV (l.take l.length)=n):=κ (by rw[List.take_length,<-G];exact ac);have aA:(d.size:Int)=(l.length:Int):=by rw[Ra,G]
 rw[G] at ak am;have aB: ¬(l.length:Int)<1:=by omega
 have aC: ¬(9:Int)<(l.length:Int):=by omega
 have ah:=κ O;clear aa J ac G O
 go_enter func214,ntmps214
 go_wp2
 go_loopw [5,20] (λu N wr=> ∃i:Nat,i<=l.length/\N= ι i/\u= ι (NV (l.take i))/\qa W1 wr) (λ_ N _=>l.length-(intOf N).toNat)
 case atStart=>exact⟨0,τ,rfl,rfl,qa.refl _⟩
 case round=>
  obtain⟨i,hi,rfl,rfl,ab⟩:=hrel;have I:=κ ab;clear ab ao;by_cases hlt:i<l.length
  ·have ap:(i:Int)<(l.length:Int):=by omega
   have au:wr.cell? ⟨w.heap.size,i,none⟩=some (υ (l[i].toNat:Int)):=by
    have e:=af.o i hlt;rw[I.o.cells _ _ (Gb e).2];exact e
   obtain⟨av,aw⟩:=ag.o i hlt;obtain⟨ar,U⟩:=ae.o i τ;have Y:10 ^ i<=10 ^ 9:=Nat.pow_le_pow_right ζ τ;have an:=aj.o i hlt;generalize NV (l.take i)=q at *;generalize ((l[i].toNat:Nat):Int)=c at *;have aD: ¬c<48:=by omega
   have aE: ¬57<c:=by omega
   have aG:q<=1000000000:=by
    generalize 10 ^ i=p at U Y;omega
   have aF:IntKind.u8.wrap (c-48)=c-48:=IntWalk.u8_in _ τ;clear U Y;go_wp2;go_roundw
   case rel=>exact⟨i+1,τ,by go_num,by rw[an],I.o⟩
   case measure=>simp[intOf];omega
  ·obtain rfl:i=l.length:=by omega
   have ap: ¬(l.length:Int)<(l.length:Int):=by omega
   have aq:=ai.o;rw[aq];go_wp2;go_ret;exact⟨rfl,ah.o.trans I.o⟩
def RTx:qL ByteArray:=λ_ cs s=>cs=[.string s]
theorem OZ:QQ RTx:=λ_ _ _ _ _ h=>h
def Ok (c:UInt8):Int:=if c=115 then 65535 else if c=116 then 20 else 999999999
theorem SlP.strs {w w':World} {H:Option Addr} {n cap:Nat} {L:List ByteArray} (h:SlP 1 RTx w (δ H n cap) L) (m:qa w w') (i:Nat) (hi:i<L.length): ∃b d,H=some ⟨b,d,none⟩/\w'.cell? ⟨b,d+i,none⟩=some (.string L[i]):=by
 obtain⟨aa,U,e,_,I,_⟩:=h;injection e with e1 e2 e3
 subst e1;obtain⟨b,d,cs,rfl,J,Y,N,O⟩:=I i hi;refine⟨b,d,rfl, ?_⟩;have G:=N 0 τ;rw[Nat.mul_one,Nat.add_zero] at G;rw[m.cells _ _ J,G,show cs=[.string L[i]] from O];rfl
structure NF (fm:ByteArray) (ws:List ByteArray) (ns:List Int):Prop where
 len:ws.length=fm.data.toList.length
 few:ws.length<=100
 pos:0<ws.length
 same:ns.length=ws.length
 ok: ∀i (h:i<ws.length) (h1:i<fm.data.toList.length) (h2:i<ns.length),RZ ws[i] (Ok fm.data.toList[i]) ns[i]
theorem Of {H:ByteArray} {d:List ByteArray} {G:List Int} (h:NF H d G) (aC:Option Addr) (cap:Nat) (w:World) (aE:SlP 1 RTx w (δ aC d.length cap) d):
  Calls prog 160 #[.string H,δ aC d.length cap] w λe w'=>(∃g cap,e= .returned (δ (some ⟨g,0,none⟩) G.length cap)/\w.heap.size<=g/\g<w'.heap.size/\ ∀i y,G[i]? =some y->w'.cell? ⟨g,i,none⟩=some (ι y))/\qa w w':=by
 obtain⟨aU,hi,aR,aS,aT⟩:=info_parts (P:=prog) (e:=3) (z:= ι 0) (size:=1) (bytes:=8) ξ;obtain⟨I,bc,be,aq,ar⟩:=h;have aJ:=κ aE;have aL:=κ ar;have bf:(H.size:Int)=(d.length:Int):=by rw[I];rfl
 have aF:Hid (∀i (hi:i<d.length) (I:i<H.data.toList.length) (wr:World),(Instr.index 9 (.string H) (ι (i:Int))).run prog wr= .ok (υ (H.data.toList[i].toNat:Int)) wr):=κ (λi hi I wr=>by
  rw[run_index_string wr 9 H .i64 (i:Int) underlying9,dif_pos ⟨τ,τ⟩]
  rfl)
 have aG:=κ I;have J:=κ aq;clear ar aE I aq
 go_enter func160,ntmps160
 go_wp2
 go_loopw [5,17] (λu ah wr=> ∃i:Nat,i<=d.length/\ah= ι i/\(∃aD aB an,u= δ aD aB an)/\wr.ownsRow w.heap.size 3 1 u (G.take i).length ((G.take i).map (Value.int .i64))/\qa w wr) (λ_ ah _=>d.length-(intOf ah).toNat)
 case atStart=>exact⟨0,τ,rfl,⟨_,_,_,rfl⟩,World.ownsRow_nil _ _ _ _,qa.refl _⟩
 case round=>
  obtain⟨i,bd,rfl,⟨aD,aB,an,rfl⟩,az,ay⟩:=hrel;have ak:=κ az;have Y:=κ ay;clear az ay;by_cases hlt:i<d.length
  ·have aO:(i:Int)<(d.length:Int):=by omega
   have aw:i<H.data.toList.length:=by have:=aG.o;omega
   have ax:i<G.length:=by have:=J.o;omega
   obtain⟨b,bj,rfl,aX⟩:=aJ.o.strs Y.o i hlt;have aA:=aF.o i hlt aw;have aa:=κ (Oq (aL.o i hlt aw ax));have aK:Hid (G.take (i+1)=G.take i++[G[i]]):=κ (List.take_succ_eq_append_getElem ax);have bg:(G.take i).length<=100:=by rw[List.length_take];omega
   obtain⟨c,U⟩:=ν (H.data.toList[i]);rw[U] at aA aa;obtain⟨m,ae⟩:=ν (Ok c);rw[ae] at aa;generalize G[i]=y at *;generalize G.take i=fl at *;generalize d[i]=wd at *;clear U;obtain⟨q,ag⟩: ∃q:Int,((c.toNat:Nat):Int)=q:=⟨_,rfl⟩;rw[ag] at aA;have ao:c=115↔((c.toNat:Nat):Int)=115:=⟨λh=>by rw[h];rfl,λh=>UInt8.toNat_inj.1 (by show c.toNat=115;omega)⟩;have N:c=116↔((c.toNat:Nat):Int)=116:=⟨λh=>by rw[h];rfl,λh=>UInt8.toNat_inj.1 (by show c.toNat=116;omega)⟩;have aP:(q=115/\m=65535)∨(¬q=115/\q=116/\m=20)∨(¬q=115/\ ¬q=116/\m=999999999):=by
    rw[<-ae,<-ag];unfold Ok;simp only[ao,N];by_cases q1:((c.toNat:Nat):Int)=115
    ·simp[q1]
    ·by_cases q2:((c.toNat:Nat):Int)=116<;>simp[q1,q2]
   clear ae ag ao N;rcases aP with ⟨rfl,rfl⟩ | ⟨aV,rfl,rfl⟩ | ⟨aV,n2,rfl⟩
   all_goals
    go_wp2_with (first | (go_at_call 214;(go_call aa.o _ as e w5 ⟨rfl,ai⟩;have ab:=κ (Y.o.trans ai);have am:=κ (jE ak.o ai);clear ai)) | (at_builtin;(refine qU _ rfl (.tmp 29) (.tmp 33) 107 rfl w.heap.size 3 aU (ι 0) 8 underlying107 hi aR aS aT rfl _ .i64 fl rfl (am.o.alloc _) _ [y] rfl (SlI.lit .i64 w5 [y] 3 _ 1 _ η rfl η η) (by simp;omega) ζ (by have:=ab.o.size;simp;omega) ?_;intro v6 w6 aj ap _;have aI:=κ aj;have aH:Hid (qa w w6):=κ (Below.grown (ab.o.al _) ap (ab.o.al _).size (λb ad=>jS am.o ad));obtain⟨bh,aY,O⟩:=xl aj;rw[show (fl++[y]).length=fl.length+1 from by simp] at O;subst O;clear aj ap)))
    go_roundw
    case rel=>exact⟨i+1,τ,by go_num,⟨_,_,_,rfl⟩,by rw[aK.o];exact aI.o,aH.o⟩
    case measure=>simp[intOf];omega
  ·obtain rfl:i=d.length:=by omega
   have aO: ¬(d.length:Int)<(d.length:Int):=by omega
   have aM:Hid (G.take d.length=G):=κ (by rw[<-J.o,List.take_length]);go_wp2;go_ret;have af:=ak.o;rw[aM.o] at af;obtain⟨bi,aZ,e,_,U,_⟩:=SlI.of_owns af (by have:=J.o;omega);rcases id af.2 with ⟨_,bb⟩ | ⟨g,ba,cur,N,ad,aN,_⟩
   ·have:=J.o;omega
   ·rw[N] at e ⊢;injection e with e3 e4 e5
    subst e3 e5;refine⟨⟨g,⟨_,rfl⟩,ad,lt_of_block aN,λi y aQ=> ?_⟩,Y.o⟩;obtain⟨av,O⟩:=List.getElem?_eq_some_iff.1 aQ;obtain⟨aW,bk,ac,_,au⟩:=U i av;injection ac with ac
    injection ac with e8 e9 _
    subst e8 e9;rw[Nat.zero_add] at au;rw[au,<-O];simp[av]
section
variable {w00 w0 w w':World} {R:Nat} {s:RmS} {F Fn:List Nat}
theorem RmR.based (h:RmR w0 w R s F) (m:qa w00 w0) (H: ∀b∈Fn,w00.heap.size<=b/\b<w0.heap.size):RmR w00 w R s (Fn++F):=by
 obtain⟨k,rfl,T,vp,N,h⟩:=h;refine⟨k,rfl,T,vp,N,h.all,λb H=>Nat.le_trans m.size (h.ge b H),λb J=> ?_,m.trans h.more⟩;rcases List.mem_append.1 J with e | e
 ·obtain⟨d,G⟩:=H b e;refine⟨?_,d,Nat.lt_of_lt_of_le G h.more.size⟩;refine Classical.byContradiction λc=> ?_
  have:=h.ge b c;omega
 ·obtain⟨d,G,I⟩:=h.law b e;exact⟨d,Nat.le_trans m.size G,I⟩
theorem RmR.mut (h:RmR w0 w R s F) (a:qg (λb=>b∈F) w w'):RmR w0 w' R s F:=by
 obtain⟨k,rfl,T,vp,d,h⟩:=h;exact⟨k,rfl,T,vp,d,h.mut a⟩
theorem RmR.mutA (h:RmR w0 w R s F) (a:qg (λb=>b∈F) w w') (H: ∀b∈Fn,b∈F∨w.heap.size<=b/\b<w'.heap.size):RmR w0 w' R s (Fn++F):=by
 obtain⟨k,rfl,T,vp,I,h⟩:=h;have d:=h.mut a;refine⟨k,rfl,T,vp,I,d.all,d.ge,λb G=> ?_,d.more⟩;rcases List.mem_append.1 G with e | e
 ·rcases H b e with f | f
  ·exact d.law b f
  ·exact⟨h.fresh b f.1,Nat.le_trans h.more.size f.1,f.2⟩
 ·exact d.law b e
end
def Pl (w00:World) (pb:Nat) (o:Option RmS) (F:List Nat) (w:World):Prop:=pb∈F/\(∀b∈F,w00.heap.size<=b/\b<w.heap.size)/\qa w00 w/\match o with
 | none=>w.heap[pb]? =some (.cells #[.pointer none] 214 (0,0))
 | some s=> ∃R,RmR w00 w R s F/\w.heap[pb]? =some (.cells #[.pointer (some ⟨R,0,none⟩)] 214 (0,0))
def ql (pb:Nat) (F:List Nat) (w w':World):Prop:=w.heap.size<=w'.heap.size/\ ∀b∈F,b≠pb->w'.heap[b]? =w.heap[b]?
section
variable {w00 w w' w'':World} {pb:Nat} {o:Option RmS} {F F' Fn:List Nat}
theorem ql.refl:ql pb F w w:=⟨Nat.le_refl _,λ_ _ _=>rfl⟩
theorem ql.trans (h:ql pb F w w') (k:ql pb F w' w''):ql pb F w w'':=⟨Nat.le_trans h.1 k.1,λb d G=>(k.2 b d G).trans (h.2 b d G)⟩
theorem ql.sub (h:ql pb F w w') (H: ∀b∈F',b∈F):ql pb F' w w':=⟨h.1,λb d G=>h.2 b (H b d) G⟩
theorem ql.blk (h:ql pb F w w') {b:Nat} {x:Obj} (d:b∈F) (G:b≠pb) (k:w.heap[b]? =some x):w'.heap[b]? =some x:=by rw[h.2 b d G];exact k
theorem Pl.lt (h:Pl w00 pb o F w): ∀b∈F,b<w.heap.size:=λb d=>(h.2.1 b d).2
theorem Pl.mut (h:Pl w00 pb o F w) (a:qg (λb=>b∈F') w w') (J: ∀b∈F',b∈F) (I:pb∉F'):Pl w00 pb o F w':=by
 obtain⟨N,H,O,d⟩:=h;refine⟨N,λb G=>⟨(H b G).1,Nat.lt_of_lt_of_le (H b G).2 a.size⟩,a.to_more O (λb G=>(H b (J b G)).1), ?_⟩;cases o with
 | none=>exact a.blk d I
 | some s=>exact d.elim λR d=>⟨R,d.1.mut (a.mono J),a.blk d.2 I⟩
theorem Pl.on (h:Pl w00 pb o F w) (m:qa w w'):Pl w00 pb o F w':=h.mut (F':=[]) (qg.of_more m) (λ_ d=>by cases d) (λd=>by cases d)
theorem Pl.stay (h:Pl w00 pb o F w) (m:qa w w'):ql pb F w w':=⟨m.size,λb d _=>m.block b (h.lt b d)⟩
theorem Pl.sub (h:Pl w00 pb o F w) (G: ∀b∈F',b∈F) (N:pb∈F'):Pl w00 pb o F' w:=by
 obtain⟨O,H,I,d⟩:=h;refine⟨N,λb J=>H b (G b J),I, ?_⟩;cases o with
 | none=>exact d
 | some s=>exact d.elim λR d=>⟨R,d.1.sub G,d.2⟩
theorem Pl.mutA (h:Pl w00 pb o F w) (a:qg (λb=>b∈F') w w') (O: ∀b∈F',b∈F) (N:pb∉F') (J: ∀b∈Fn,b∈F∨w.heap.size<=b/\b<w'.heap.size):Pl w00 pb o (Fn++F) w':=by
 obtain⟨U,d,I,G⟩:=h;have Y:=I.size;refine⟨List.mem_append_right _ U,λb H=> ?_,a.to_more I (λb H=>(d b (O b H)).1), ?_⟩
 ·rcases List.mem_append.1 H with e | e
  ·rcases J b e with f | f
   ·exact⟨(d b f).1,Nat.lt_of_lt_of_le (d b f).2 a.size⟩
   ·exact⟨τ,f.2⟩
  ·exact⟨(d b e).1,Nat.lt_of_lt_of_le (d b e).2 a.size⟩
 ·cases o with
  | none=>exact a.blk G N
  | some s=>exact G.elim λR G=>⟨R,G.1.mutA (a.mono O) J,a.blk G.2 N⟩
theorem Pl.adds (h:Pl w00 pb o F w) (m:qa w w') (G: ∀b∈Fn,w.heap.size<=b/\b<w'.heap.size):Pl w00 pb o (Fn++F) w':=h.mutA (F':=[]) (qg.of_more m) (λ_ d=>by cases d) (λd=>by cases d) (λb d=>Or.inr (G b d))
end
theorem SlP.rest {w:World} {b d cap:Nat} {x:ByteArray} {L:List ByteArray} (h:SlP 1 RTx w (δ (some ⟨b,d,none⟩) (L.length+1) cap) (x::L)):SlP 1 RTx w (δ (some ⟨b,d+1,none⟩) L.length (cap-1)) L:=by
 obtain⟨ae,ab,e,H,I,J,ac,ad⟩:=h;injection e with e1 e2 e3
 subst e1 e3;rw[List.length_cons] at H J;refine⟨_,_,rfl,τ,λi hi=> ?_,τ,τ,λh=>by cases h⟩;obtain⟨aa,af,cs,e,N,Y,O,G⟩:=I (i+1) (by rw[List.length_cons];omega);injection e with e
 injection e with e6 e7 _
 subst e6 e7;refine⟨b,d+1,cs,rfl,N,Y,λj U=> ?_,by rw[List.getElem_cons_succ] at G;exact G⟩;rw[<-O j U]
 congr 2
 omega
theorem AZ (p:Addr) (w:World):
  CallsD prog 158 #[π (some p)] .returning w λe H w'=>e= .returned (.tuple #[])/\H= .returning/\w'=w:=by
 refine callsD_of_wpS func158 rfl λd cs G=> ?_
 apply wpS_seq;apply wpS_region;simp[wpOpsS,go_sem,recoverD,G,ntmps158,Exit.thenS];apply wpS_seq;apply wpS_region;simp[wpOpsS,go_sem,Exit.thenS];refine wpS_cond (t:=false) (by simp[Act.eval,Array.replicate]) ?_;refine wpS_of_wp (wp_skip ?_);cases d
 simp_all [bodyPostS,results,results158,Exit.thenS]
def OD (more:List UInt8):List UInt8:=if more=[] then [111,107] else [111,107,32]++more
theorem Pl.room {d w:World} {pb:Nat} {s:RmS} {F:List Nat} (h:Pl d pb (some s) F w): ∃R,RmR d w R s F/\w.heap[pb]? =some (.cells #[γ R] 214 (0,0)):=h.2.2.2
theorem V7 {N w:World} {pb b ar cap:Nat} {o aj:Option RmS} {F:List Nat} {ai aA:ByteArray} {more:List UInt8} {args:List ByteArray} {aq:List Int}
  (h:Pl N pb o F w) (ak:SlP 1 RTx w (δ (some ⟨b,ar,none⟩) (args.length+1) cap) (ai::args))
  (hF: ∀w,Calls prog 161 #[.string ai] w λe w'=>e= .returned (.string aA)/\w'=w) (ah:NF aA args aq)
  (aZ:(ai.toList==([114,111,111,109]:List UInt8))=o.isNone) (aW:more.length<=1000)
  (aC: ∀(F:List Nat) (w:World) (g cap:Nat),Pl N pb o F w->g∈F->g≠pb->(∀i y,aq[i]? =some y->w.cell? ⟨g,i,none⟩=some (ι y))->Calls prog 162 #[γ pb,.string ai,δ (some ⟨g,0,none⟩) aq.length cap] w λe w'=>e= .returned (.string ⟨more.toArray⟩)/\Pl N pb aj F w'/\ql pb F w w'):
  Calls prog 101 #[γ pb,δ (some ⟨b,ar,none⟩) (args.length+1) cap] w λe w'=>e= .returned (.string ⟨(OD more).toArray⟩)/\Pl N pb aj F w'/\ql pb F w w':=by
 obtain⟨W1,ao⟩:=ν (w.alloc (.cells #[.string ⟨#[]⟩] 9));have ag:Hid (qa w W1):=κ (by rw[<-ao];exact qa.alloc _ _);have av:Hid (W1.heap[w.heap.size]? =some (.cells #[.string ⟨#[]⟩] 9 (0,0))):=κ (by rw[<-ao];exact qj _ _);have ab:Hid (Pl N pb o ([w.heap.size]++F) W1):=κ (h.adds ag.o (λb G=>by simp at G;subst G;exact⟨Nat.le_refl _,qn av.o⟩));have ap:Hid (pb≠w.heap.size):=κ (λe=>by have:=h.lt pb h.1;omega);have ay:Hid (ql pb F w W1):=κ (h.stay ag.o);have aT:args.length+1<=cap:=by
  obtain⟨bd,aQ,e,_,_,aM,_⟩:=id ak;injection e with _ _ e3
  subst e3;exact aM
 have aY:=ah.pos;have aU:=ah.few;obtain⟨aP,bc,e0,am⟩:=ak.strs ag.o 0 η;injection e0 with e0
 injection e0 with e1 e2 _
 subst e1 e2;rw[Nat.add_zero] at am;rw[List.getElem_cons_zero] at am;have ax:=κ (λw' (m:qa w w')=>Of ah (some ⟨b,ar+1,none⟩) (cap-1) w' (SlP.keep OZ ak.rest m));have ba:(1:Int)<=(args.length:Int)+1:=by omega
 have bb: ¬cap=1:=by omega
 have aK:=κ h.lt;clear h ak ah
 go_enter_defers func101,ntmps101
 go_upto_region 3 with fail
 clear am ao;refine zC W1 6 [(0,false),(2,false),(3,false),(1,true),(4,true),(5,false)] ξ ξ ?_
 refine Qq3 ?_
 (refine Ql ?_;intro K aa)
 go_call hF _ as e w5 ⟨rfl,rfl⟩;refine⟨_,rfl,qk ((qa.refl _).dr 1),aa _ _ ?_⟩;clear aa K
 (refine Ql ?_;intro K aa)
 go_call ax.o _ (ag.o.dr 1) as e w6 ⟨⟨g,aL,rfl,aD,aE,aF⟩,aI⟩;have ac:Hid (qa W1 w6):=κ (((qa.refl W1).dr 1).trans aI);refine⟨_,rfl,qk ac.o,aa _ _ ?_⟩;clear aa K
 iterate 1 (refine qE rfl rfl (qk ac.o) ?_;intro K aa;go_big_quiet_op;go_big_quiet_on)
 refine qA ?_;have aH:W1.heap.size<=g:=aD;have aw:Hid (Pl N pb o ([g]++([w.heap.size]++F)) w6):=κ (ab.o.adds ac.o (λb G=>by simp at G;subst G;exact⟨aH,aE⟩));have aG:g≠pb:=λe=>by have:=ab.o.lt pb ab.o.1;omega
 have az:Hid (ql pb ([w.heap.size]++F) W1 w6):=κ (ab.o.stay ac.o);have ae:=κ (aC _ w6 g aL aw.o η aG aF);have aJ:Hid (w6.heap[w.heap.size]? =some (.cells #[.string ⟨#[]⟩] 9 (0,0))):=κ (qc ac.o av.o);have ad:Hid (∀d,ql pb ([g]++([w.heap.size]++F)) w6 d->d.heap[w.heap.size]? =some (.cells #[.string ⟨#[]⟩] 9 (0,0))):=κ (λd t=>t.blk η (λe=>ap.o e.symm) aJ.o)
 have af:Hid (∀d v,Pl N pb aj ([g]++([w.heap.size]++F)) d->ql pb ([g]++([w.heap.size]++F)) w6 d->Pl N pb aj F (d.setCell ⟨w.heap.size,0,none⟩ v)/\ql pb F w (d.setCell ⟨w.heap.size,0,none⟩ v)):=κ (λd v I H=>by
  have a:qg (λb=>b∈[w.heap.size]) d (d.setCell ⟨w.heap.size,0,none⟩ v):=(qg.refl _ _).set η _;refine⟨(I.mut a (λb G=>by simp at G;subst G;simp) (λG=>by simp at G;exact ap.o G)).sub (λb G=>by simp[G]) ?_, ?_⟩
  ·have:=ab.o.1;rcases List.mem_append.1 this with e | e
   ·simp at e;exact absurd e ap.o
   ·exact e
  ·refine ay.o.trans ((az.o.sub (λb G=>by simp[G])).trans ((H.sub (λb G=>by simp[G])).trans ⟨a.size,λb G aX=> ?_⟩));have aV:b<w.heap.size:=aK.o b G
   exact a.block b (by have:=ay.o.1;have:=az.o.1;have:=H.1;omega) (λe=>by simp at e;omega))
 have aS:=λw=>run_string_add_lists (P:=prog) w [111,107,32] more ζ τ
 clear aD aE aF aI hF aC ax aG aH;cases o with
 | none=>
  by_cases hq:more=[]
  ·subst hq
   go_wp2_with ((go_at_call 162;(go_call ae.o as e d ⟨rfl,I,H⟩;have J:=κ (ad.o d H);have an:=qd J.o 0;have Y:=β0 J.o;have O:=κ (af.o d (.string ⟨#[111,107]⟩) I H);clear I H)))
   refine leaves_cons (f:=158) (args:= #[γ w.heap.size]) η (by simp[go_sem]) ?_;refine(AZ ⟨w.heap.size,0,none⟩ _).mono ?_;rintro e au w'' ⟨rfl,rfl,rfl⟩;have U: ∀v,(d.setCell ⟨w.heap.size,0,none⟩ v).cell? ⟨w.heap.size,0,none⟩=some v:=λv=>World.cell?_setCell_same' _ _ v (by rw[Y];rfl)
   simp[Leaves,settle,results,results101,go_sem,U];exact⟨by rfl,O.o⟩
  ·have aO:(more==([]:List UInt8))=false:=by simp[hq]
   have al:Hid (OD more=[111,107,32]++more):=κ (if_neg hq);clear hq
   go_wp2_with ((go_at_call 162;(go_call ae.o as e d ⟨rfl,I,H⟩;have J:=κ (ad.o d H);have an:=qd J.o 0;have Y:=β0 J.o;have O:=κ (af.o d (.string ⟨([111,107,32]++more).toArray⟩) I H);clear I H)))
   refine leaves_cons (f:=158) (args:= #[γ w.heap.size]) η (by simp[go_sem]) ?_;refine(AZ ⟨w.heap.size,0,none⟩ _).mono ?_;rintro e au w'' ⟨rfl,rfl,rfl⟩;have U: ∀v,(d.setCell ⟨w.heap.size,0,none⟩ v).cell? ⟨w.heap.size,0,none⟩=some v:=λv=>World.cell?_setCell_same' _ _ v (by rw[Y];rfl)
   rw[al.o];simp[Leaves,settle,results,results101,go_sem,U];exact O.o
 | some s=>
  obtain⟨R,aN,aB⟩:=aw.o.room;have aR:=β0 aB;clear aN aB;by_cases hq:more=[]
  ·subst hq
   go_wp2_with ((go_at_call 162;(go_call ae.o as e d ⟨rfl,I,H⟩;have J:=κ (ad.o d H);have an:=qd J.o 0;have Y:=β0 J.o;have O:=κ (af.o d (.string ⟨#[111,107]⟩) I H);clear I H)))
   refine leaves_cons (f:=158) (args:= #[γ w.heap.size]) η (by simp[go_sem]) ?_;refine(AZ ⟨w.heap.size,0,none⟩ _).mono ?_;rintro e au w'' ⟨rfl,rfl,rfl⟩;have U: ∀v,(d.setCell ⟨w.heap.size,0,none⟩ v).cell? ⟨w.heap.size,0,none⟩=some v:=λv=>World.cell?_setCell_same' _ _ v (by rw[Y];rfl)
   simp[Leaves,settle,results,results101,go_sem,U];exact⟨by rfl,O.o⟩
  ·have aO:(more==([]:List UInt8))=false:=by simp[hq]
   have al:Hid (OD more=[111,107,32]++more):=κ (if_neg hq);clear hq
   go_wp2_with ((go_at_call 162;(go_call ae.o as e d ⟨rfl,I,H⟩;have J:=κ (ad.o d H);have an:=qd J.o 0;have Y:=β0 J.o;have O:=κ (af.o d (.string ⟨([111,107,32]++more).toArray⟩) I H);clear I H)))
   refine leaves_cons (f:=158) (args:= #[γ w.heap.size]) η (by simp[go_sem]) ?_;refine(AZ ⟨w.heap.size,0,none⟩ _).mono ?_;rintro e au w'' ⟨rfl,rfl,rfl⟩;have U: ∀v,(d.setCell ⟨w.heap.size,0,none⟩ v).cell? ⟨w.heap.size,0,none⟩=some v:=λv=>World.cell?_setCell_same' _ _ v (by rw[Y];rfl)
   rw[al.o];simp[Leaves,settle,results,results101,go_sem,U];exact O.o
def pkT:Pk:=⟨false,96,1,9,7,[],false,0,[],[16,0]⟩
def pkU:List Int:=[128,96,0,1,0,0,0,9,0,0,0,7,16,0]
theorem tpB:pkB pkT=pkU:=by decide
def cfT:CfR:=⟨2,2,1,1,2,1⟩
def tp0:RmS:=ud cfT
def tp1:RmS:=(tp0.publish 0 7 8 9).1
def tp2:RmS:=(tp1.join 0 50 5 100).1
def tp3:RmS:=(tp2.subscribe 0 0 0).1
def tp4:RmS:=(tp3.arrive pkU).1
def wkT:List Og:=[(0,0),(1,0),(2,0),(3,0),(4,0)]
def tpP (j:Nat):RmS:=(wkT.take j).foldl (λs w=>(s.pick w true).1) tp4
def tp5:RmS:=tpP 5
theorem tq1:(tp0.publish 0 7 8 9).2=0:=by kernel_rfl
theorem tq2:(tp1.join 0 50 5 100).2=0:=by kernel_rfl
theorem tq3:(tp2.subscribe 0 0 0).2=0:=by kernel_rfl
theorem tq4:(tp3.arrive pkU).2=0:=by kernel_rfl
theorem tq5:tp4.workers=wkT:=by kernel_rfl
theorem tq6: ∀j<5,(tpP j).may (wkT.getD j (0,0))=true:=by decide+kernel
theorem tq7:(tp5.ln 0).W=[(0,[128,96,0,5,0,0,0,100,0,0,0,50,16,0])]:=by kernel_rfl
theorem RmR.away {G w w':World} {R:Nat} {s s':RmS} {F:List Nat} (h:RmR G w R s F) (H:RmR G w' R s' F) (t:qw F w w'):qg (λb=>G.heap.size<=b/\b∉F) w w':=by
 have m:=h.more;have d:=H.more;refine⟨d.os.trans m.os.symm,d.tape.trans m.tape.symm,d.output.trans m.output.symm,t.1,λb J I=> ?_⟩;by_cases e:b<G.heap.size
 ·rw[d.block b e,m.block b e]
 ·exact t.2 b (Classical.byContradiction λc=>I ⟨τ,c⟩)
theorem Pl.step {G w w':World} {pb R:Nat} {s s':RmS} {F:List Nat} (h:Pl G pb (some s) F w) (d:w.heap[pb]? =some (.cells #[γ R] 214 (0,0))) (H:RmR G w' R s' F) (t:qw F w w'):Pl G pb (some s') F w'/\ql pb F w w':=
 ⟨⟨h.1,λb d=>⟨(h.2.1 b d).1,Nat.lt_of_lt_of_le (h.2.1 b d).2 t.1⟩,H.more,R,H,t.blk h.1 d⟩,t.1,λb d _=>t.2 b d⟩
theorem tk0:qV 0 tp0:=uQ (c:=cfT) rfl
theorem tk2:qV 2 tp2:=(tk0.publish 0 7 8 9 ζ).join 0 50 5 100
theorem tk4:qV 4 tp4:=(tk2.subscribe 0 0 0).arrive (b:=pkU) (Byt.of_all ζ) ζ
theorem te1:tp0.publish 0 7 8 9=(tp1,0):=Prod.ext rfl tq1
theorem te2:tp1.join 0 50 5 100=(tp2,0):=Prod.ext rfl tq2
theorem te3:tp2.subscribe 0 0 0=(tp3,0):=Prod.ext rfl tq3
theorem te4:tp3.arrive pkU=(tp4,0):=Prod.ext rfl tq4
theorem do1 {G w:World} {pb g cap:Nat} {F:List Nat} (h:Pl G pb (some tp0) F w) (d:g∈F) (ai:g≠pb) (H: ∀i y,([0,7,8,9]:List Int)[i]? =some y->w.cell? ⟨g,i,none⟩=some (ι y)):
  Calls prog 162 #[γ pb,.string ⟨#[112,117,98,108,105,115,104]⟩,δ (some ⟨g,0,none⟩) 4 cap] w λe w'=>e= .returned (.string ⟨#[]⟩)/\Pl G pb (some tp1) F w'/\ql pb F w w':=by
 obtain⟨R,aa,N⟩:=h.room;have ac:=κ h;have I:=κ aa;have ab:=κ N;have ah:w.cell? ⟨pb,0,none⟩=some (π (some ⟨R,0,none⟩)):=qb N 0 rfl;have ad: ∀x:qz (λb=>G.heap.size<=b/\b∉F) w,x.w'.cell? ⟨g,0,none⟩=some (ι 0):=λx=>x.cell (h.lt g d) (λc=>c.2 d) (H 0 _ rfl)
 have ae: ∀x:qz (λb=>G.heap.size<=b/\b∉F) w,x.w'.cell? ⟨g,1,none⟩=some (ι 7):=λx=>x.cell (h.lt g d) (λc=>c.2 d) (H 1 _ rfl)
 have af: ∀x:qz (λb=>G.heap.size<=b/\b∉F) w,x.w'.cell? ⟨g,2,none⟩=some (ι 8):=λx=>x.cell (h.lt g d) (λc=>c.2 d) (H 2 _ rfl)
 have ag: ∀x:qz (λb=>G.heap.size<=b/\b∉F) w,x.w'.cell? ⟨g,3,none⟩=some (ι 9):=λx=>x.cell (h.lt g d) (λc=>c.2 d) (H 3 _ rfl)
 clear h aa N H
 go_enter func162,ntmps162
 go_upto_region 8 with fail
 refine QN (λb=>G.heap.size<=b/\b∉F) w 19 19 [17] ?_
 refine RV ?_
 (refine Ql ?_;intro K O)
 go_call MU (I.o.on (qa.drewN w 1)) rfl 0 7 8 9 te1 as e w5 ⟨rfl,J,t5⟩;have U:Hid (qg (λb=>G.heap.size<=b/\b∉F) w w5):=κ (((qg.refl _ w).drewN 1).trans ((I.o.on (qa.drewN w 1)).away J t5));refine⟨_,rfl,qi U.o,O _ _ ?_⟩;clear O K
 iterate 1 (refine qE rfl rfl (qi U.o) ?_;intro K O;go_big_quiet_op;go_big_quiet_on)
 refine qA ?_;have Y:=κ (ac.o.step ab.o J (qw.trans (I.o.stay (qa.drewN w 1)) t5));clear J t5;go_wp2;go_ret;exact⟨rfl,Y.o.1,Y.o.2⟩
theorem do2 {G w:World} {pb g cap:Nat} {F:List Nat} (h:Pl G pb (some tp1) F w) (d:g∈F) (ai:g≠pb) (H: ∀i y,([0,50,5,100]:List Int)[i]? =some y->w.cell? ⟨g,i,none⟩=some (ι y)):
  Calls prog 162 #[γ pb,.string ⟨#[106,111,105,110]⟩,δ (some ⟨g,0,none⟩) 4 cap] w λe w'=>e= .returned (.string ⟨#[]⟩)/\Pl G pb (some tp2) F w'/\ql pb F w w':=by
 obtain⟨R,aa,N⟩:=h.room;have ac:=κ h;have I:=κ aa;have ab:=κ N;have ah:w.cell? ⟨pb,0,none⟩=some (π (some ⟨R,0,none⟩)):=qb N 0 rfl;have ad: ∀x:qz (λb=>G.heap.size<=b/\b∉F) w,x.w'.cell? ⟨g,0,none⟩=some (ι 0):=λx=>x.cell (h.lt g d) (λc=>c.2 d) (H 0 _ rfl)
 have ae: ∀x:qz (λb=>G.heap.size<=b/\b∉F) w,x.w'.cell? ⟨g,1,none⟩=some (ι 50):=λx=>x.cell (h.lt g d) (λc=>c.2 d) (H 1 _ rfl)
 have af: ∀x:qz (λb=>G.heap.size<=b/\b∉F) w,x.w'.cell? ⟨g,2,none⟩=some (ι 5):=λx=>x.cell (h.lt g d) (λc=>c.2 d) (H 2 _ rfl)
 have ag: ∀x:qz (λb=>G.heap.size<=b/\b∉F) w,x.w'.cell? ⟨g,3,none⟩=some (ι 100):=λx=>x.cell (h.lt g d) (λc=>c.2 d) (H 3 _ rfl)
 clear h aa N H
 go_enter func162,ntmps162
 go_upto_region 10 with fail
 refine QN (λb=>G.heap.size<=b/\b∉F) w 18 18 [16] ?_
 refine RW ?_
 (refine Ql ?_;intro K O)
 go_call Me (I.o.on (qa.drewN w 1)) rfl 0 50 5 100 ⟨ζ,ζ⟩ ⟨ζ,ζ⟩ te2 as e w5 ⟨rfl,J,t5⟩;have U:Hid (qg (λb=>G.heap.size<=b/\b∉F) w w5):=κ (((qg.refl _ w).drewN 1).trans ((I.o.on (qa.drewN w 1)).away J t5));refine⟨_,rfl,qi U.o,O _ _ ?_⟩;clear O K
 iterate 1 (refine qE rfl rfl (qi U.o) ?_;intro K O;go_big_quiet_op;go_big_quiet_on)
 refine qA ?_;have Y:=κ (ac.o.step ab.o J (qw.trans (I.o.stay (qa.drewN w 1)) t5));clear J t5;go_wp2;go_ret;exact⟨rfl,Y.o.1,Y.o.2⟩
theorem do3 {d w:World} {pb g cap:Nat} {F:List Nat} (h:Pl d pb (some tp2) F w) (G:g∈F) (ah:g≠pb) (H: ∀i y,([0,0,0]:List Int)[i]? =some y->w.cell? ⟨g,i,none⟩=some (ι y)):
  Calls prog 162 #[γ pb,.string ⟨#[116,97,107,101]⟩,δ (some ⟨g,0,none⟩) 3 cap] w λe w'=>e= .returned (.string ⟨#[]⟩)/\Pl d pb (some tp3) F w'/\ql pb F w w':=by
 obtain⟨R,aa,N⟩:=h.room;have ac:=κ h;have I:=κ aa;have ab:=κ N;have ag:w.cell? ⟨pb,0,none⟩=some (π (some ⟨R,0,none⟩)):=qb N 0 rfl;have ad: ∀x:qz (λb=>d.heap.size<=b/\b∉F) w,x.w'.cell? ⟨g,0,none⟩=some (ι 0):=λx=>x.cell (h.lt g G) (λc=>c.2 G) (H 0 _ rfl)
 have ae: ∀x:qz (λb=>d.heap.size<=b/\b∉F) w,x.w'.cell? ⟨g,1,none⟩=some (ι 0):=λx=>x.cell (h.lt g G) (λc=>c.2 G) (H 1 _ rfl)
 have af: ∀x:qz (λb=>d.heap.size<=b/\b∉F) w,x.w'.cell? ⟨g,2,none⟩=some (ι 0):=λx=>x.cell (h.lt g G) (λc=>c.2 G) (H 2 _ rfl)
 clear h aa N H
 go_enter func162,ntmps162
 go_upto_region 12 with fail
 refine QN (λb=>d.heap.size<=b/\b∉F) w 12 12 [10] ?_
 refine Nx ?_
 (refine Ql ?_;intro K O)
 go_call LQ (I.o.on (qa.drewN w 1)) tk2 ζ 0 0 0 te3 as e w5 ⟨rfl,J,t5⟩;have U:Hid (qg (λb=>d.heap.size<=b/\b∉F) w w5):=κ (((qg.refl _ w).drewN 1).trans ((I.o.on (qa.drewN w 1)).away J t5));refine⟨_,rfl,qi U.o,O _ _ ?_⟩;clear O K
 iterate 1 (refine qE rfl rfl (qi U.o) ?_;intro K O;go_big_quiet_op;go_big_quiet_on)
 refine qA ?_;have Y:=κ (ac.o.step ab.o J (qw.trans (I.o.stay (qa.drewN w 1)) t5));clear J t5;go_wp2;go_ret;exact⟨rfl,Y.o.1,Y.o.2⟩
theorem Rv (w:World):Calls prog 9 #[θ #[ι 2,ι 2,ι 1,ι 1,ι 2,ι 1]] w λe w'=> ∃R,e= .returned (.tuple #[γ R,ι 0])/\RmR w w' R tp0 []/\qa w w':=JN cfT rfl w
theorem O0 {Y w:World} {pb g cap:Nat} {F:List Nat} (h:Pl Y pb none F w) (af:g∈F) (ao:g≠pb) (I: ∀i y,([2,2,1,1,2,1]:List Int)[i]? =some y->w.cell? ⟨g,i,none⟩=some (ι y)):
  Calls prog 215 #[γ pb,δ (some ⟨g,0,none⟩) 6 cap] w λe w'=>e= .returned (ι 0)/\Pl Y pb (some tp0) F w'/\ql pb F w w':=by
 have ac:w.heap[pb]? =some (.cells #[π none] 214 (0,0)):=h.2.2.2;have G:=κ h;have ae:=κ ac;have J:=h.lt g af;have ah: ∀x:qt w,x.w'.cell? ⟨g,0,none⟩=some (ι 2):=λx=>by rw[x.h.cells _ _ J];exact I 0 _ rfl
 have ai: ∀x:qt w,x.w'.cell? ⟨g,1,none⟩=some (ι 2):=λx=>by rw[x.h.cells _ _ J];exact I 1 _ rfl
 have aj: ∀x:qt w,x.w'.cell? ⟨g,2,none⟩=some (ι 1):=λx=>by rw[x.h.cells _ _ J];exact I 2 _ rfl
 have ak: ∀x:qt w,x.w'.cell? ⟨g,3,none⟩=some (ι 1):=λx=>by rw[x.h.cells _ _ J];exact I 3 _ rfl
 have al: ∀x:qt w,x.w'.cell? ⟨g,4,none⟩=some (ι 2):=λx=>by rw[x.h.cells _ _ J];exact I 4 _ rfl
 have am: ∀x:qt w,x.w'.cell? ⟨g,5,none⟩=some (ι 1):=λx=>by rw[x.h.cells _ _ J];exact I 5 _ rfl
 clear h ac I
 go_enter func215,ntmps215
 go_upto_region 1 with fail
 refine Qn w 26 26 [20] ?_
 refine RX ?_
 (refine Ql ?_;intro K O)
 go_call Rv _ as e w5 ⟨R,rfl,ab,ad⟩;have H:Hid (qa w w5):=κ (((qa.refl w).dr 1).trans ad);refine⟨_,rfl,qk H.o,O _ _ ?_⟩;clear O K
 iterate 5 (refine qE rfl rfl (qk H.o) ?_;intro K O;go_big_quiet_op;go_big_quiet_on)
 refine qA ?_;have aa:Hid (RmR Y w5 R tp0 F):=κ ((ab.based (Fn:=F) (G.o.2.2.1.dr 1) (λb d=>G.o.2.1 b d)).sub (λb d=>List.mem_append_left _ d));have N:=κ (qc H.o ae.o);have ap:=β0 N.o;have an:=qd N.o 0;clear ab ad;go_wp2;go_ret;have a:qg (λb=>b∈[pb]) w5 (w5.setCell ⟨pb,0,none⟩ (γ R)):=(qg.refl _ _).set η _;have U:=G.o.1;refine⟨rfl,⟨U,λb d=>⟨(G.o.2.1 b d).1,Nat.lt_of_lt_of_le (G.o.2.1 b d).2 (Nat.le_trans H.o.size a.size)⟩,a.to_more aa.o.more (λb d=>by simp at d;subst d;exact(G.o.2.1 _ U).1),R,aa.o.mut (a.mono λb d=>by simp at d;subst d;exact U), ?_⟩,Nat.le_trans H.o.size a.size,λb d ag=> ?_⟩
 ·have e:=N.o;simp[World.setCell,Array.getElem?_modify,e]
 ·rw[a.block b (by have:=G.o.lt b d;have:=H.o.size;omega) (λe=>by simp at e;exact ag e),H.o.block b (G.o.lt b d)]
theorem do0 {I w:World} {pb g cap:Nat} {F:List Nat} (h:Pl I pb none F w) (U:g∈F) (Y:g≠pb) (H: ∀i y,([2,2,1,1,2,1]:List Int)[i]? =some y->w.cell? ⟨g,i,none⟩=some (ι y)):
  Calls prog 162 #[γ pb,.string ⟨#[114,111,111,109]⟩,δ (some ⟨g,0,none⟩) 6 cap] w λe w'=>e= .returned (.string ⟨#[]⟩)/\Pl I pb (some tp0) F w'/\ql pb F w w':=by
 have G:w.heap[pb]? =some (.cells #[π none] 214 (0,0)):=h.2.2.2;have aa:w.cell? ⟨pb,0,none⟩=some (π none):=qb G 0 rfl;have N:=κ (O0 (cap:=cap) h U Y H);clear h G H
 go_enter func162,ntmps162
 go_wp2_with ((go_at_call 215;(go_call N.o as e w5 ⟨rfl,d,t5⟩;have J:=κ d;have O:=κ t5;clear d t5)))
 go_ret;exact⟨rfl,J.o,O.o⟩
theorem RR:uf pkT:=⟨ζ,ζ,ζ,ζ,λi=>by simp[U32,pkT],ζ,xh,Byt.of_all ζ⟩
theorem tkR:jJ pkT=true:=by decide
theorem Rq (w:World) (v:Value) (I:SlI .u8 w v [16,0]):Calls prog 37 #[θ #[μ false,υ 96,φ 1,ω 9,ω 7,(),false,φ 0,(),v]] w λe w'=>(∃v,e= .returned (.tuple #[v,ι 0])/\SlI .u8 w' v pkU)/\qa w w':=
 (gi pkT _ _ _ _ ⟨SlI.nil _ _,SlI.nil _ _,I⟩ RR tkR).mono λe w' ⟨⟨v,G,d⟩,H⟩=>⟨⟨v,G,by rw[tpB] at d;exact SlI.of_owns d ζ⟩,H⟩
theorem OW {w:World} {g cap:Nat} {v:Value} (U:g<w.heap.size) (I: ∀i y,([7,1,9]:List Int)[i]? =some y->w.cell? ⟨g,i,none⟩=some (ι y)) (Y:SlI .u8 w v [16,0]):
  Calls prog 216 #[δ (some ⟨g,0,none⟩) 3 cap,v] w λe w'=>(∃v',e= .returned v'/\SlI .u8 w' v' pkU)/\qa w w':=by
 have ac: ∀x:qt w,x.w'.cell? ⟨g,0,none⟩=some (ι 7):=λx=>by rw[x.h.cells _ _ U];exact I 0 _ rfl
 have ad: ∀x:qt w,x.w'.cell? ⟨g,1,none⟩=some (ι 1):=λx=>by rw[x.h.cells _ _ U];exact I 1 _ rfl
 have ae: ∀x:qt w,x.w'.cell? ⟨g,2,none⟩=some (ι 9):=λx=>by rw[x.h.cells _ _ U];exact I 2 _ rfl
 have ag:=κ Y;obtain⟨am,ak,rfl,_⟩:=id Y;clear I Y
 go_enter func216,ntmps216
 go_upto_region 1 with fail
 refine Qn w 14 15 [13,14] ?_
 refine RY ?_
 (refine Ql ?_;intro K G)
 have J:Hid (((w.drewN 1).alloc (.cells #[μ false,υ 0,φ 0,ω 0,ω 0] 60)).heap[w.heap.size]? =some (.cells #[μ false,υ 0,φ 0,ω 0,ω 0] 60 (0,0))):=κ (qj (w.drewN 1) _);have N:Hid (qa w ((w.drewN 1).alloc (.cells #[μ false,υ 0,φ 0,ω 0,ω 0] 60))):=κ (((qa.refl w).dr 1).al _);refine⟨qk N.o,G _ _ ?_⟩;clear G K ac ad ae;refine jR rfl rfl ?_;intro K G;refine xw 60 (.tmp 5) (.tmp 20) rfl w.heap.size 60 _ #[μ false,υ 96,φ 1,ω 9,ω 7] J.o rfl rfl ξ rfl (by simp[Value.oneCell']) ?_;have H:=κ (N.o.row (Nat.le_refl _) #[μ false,υ 96,φ 1,ω 9,ω 7]);have d:=κ (jM J.o #[μ false,υ 96,φ 1,ω 9,ω 7]);refine⟨qk H.o,G _ _ ?_⟩;clear G K;refine qA ?_;obtain⟨aj,O⟩:=ν (((w.drewN 1).alloc (.cells #[μ false,υ 0,φ 0,ω 0,ω 0] 60)).setRow w.heap.size #[μ false,υ 96,φ 1,ω 9,ω 7]);rw[O] at H d
 (try rw[O])
 clear O J N;have an:=β0 d.o;have ao:=β1 d.o;have ap:=β2 d.o;have aq:=β3 d.o;have ar:=β4 d.o;have af:=κ (Rq aj (δ am 2 ak) (ag.o.keep H.o))
 go_wp2_with ((go_at_call 37;(go_call af.o as e w5 ⟨⟨v5,rfl,ab⟩,aa⟩;have ai:=κ ab;have ah:=κ (H.o.trans aa);clear ab aa)))
 go_ret;exact⟨⟨_,rfl,ai.o⟩,ah.o⟩
theorem do4 {ad w:World} {pb g cap:Nat} {F:List Nat} (h:Pl ad pb (some tp3) F w) (ak:g∈F) (an:g≠pb) (U: ∀i y,([7,1,9]:List Int)[i]? =some y->w.cell? ⟨g,i,none⟩=some (ι y)):
  Calls prog 162 #[γ pb,.string ⟨#[107,101,121]⟩,δ (some ⟨g,0,none⟩) 3 cap] w λe w'=>e= .returned (.string ⟨#[]⟩)/\Pl ad pb (some tp4) F w'/\ql pb F w w':=by
 obtain⟨R,O,G⟩:=h.room;have am:w.cell? ⟨pb,0,none⟩=some (π (some ⟨R,0,none⟩)):=qb G 0 rfl;have ah:=κ h;have H:=κ O;have af:=κ G;have Y:=h.lt g ak;have d:=κ (qa.alloc w (.cells #[υ 16,υ 0] 5));have aj:=κ (SlI.lit .u8 w [16,0] 5 #[υ 16,υ 0] 2 w.heap.size rfl rfl rfl η);have ag:=κ (OW (cap:=cap) (Nat.lt_of_lt_of_le Y d.o.size) (λi y al=>by rw[d.o.cells _ _ Y];exact U i y al) aj.o);clear h O G U
 go_enter func162,ntmps162
 go_wp2_with (first | (go_at_call 216;(go_call ag.o as e w5 ⟨⟨v5,rfl,ab⟩,aa⟩;have ai:=κ ab;have J:=κ (d.o.trans aa);have ae:=κ (H.o.on J.o);clear ab aa)) | (go_at_call 33;(go_call LC ae.o pkU v5 ai.o (Byt.of_all ζ) ζ (by decide+kernel) te4 as e w6 ⟨rfl,N,ac⟩;have I:=κ (ah.o.step af.o N ((H.o.stay J.o).trans ac));clear N ac)))
 go_ret;exact⟨rfl,I.o.1,I.o.2⟩
section
open Go.Shelf Go.RowKit
def Oi:Go.Shelf.Ren:=⟨fun | 146=>98 | 221=>156 | 268=>209 | 138=>210 | 143=>211 | 195=>261 | 197=>262 | 218=>263 | 219=>264 | 260=>290 | 217=>291 | 225=>292 | 224=>293 | 267=>294 | 266=>319 | 314=>320 | n=>n,fun | 9=>9 | 31=>215 | 3=>3 | 4=>4 | 0=>0 | 105=>435 | 21=>21 | 5=>5 | 46=>335 | 119=>486 | 139=>489 | 138=>488 | 146=>490 | 51=>38 | n=>n,fun | 1=>0 | 3=>1 | 4=>2 | n=>n⟩
theorem lays146:Go.Proofs.LaysM.n146 prog Oi:=by
 constructor
 all_goals first | kernel_rfl | (intro w;rfl) | (constructor<;>first | kernel_rfl | (intro w;rfl)) | exact λw h=>Go.Proofs.cell_of_shapedOpen_int (zero:= #[ι 0]) (t:=3) h (of_decide_eq_true ξ) ξ rfl ξ ξ underlying3
def NP:Go.Shelf.Ren:=⟨fun | 156=>299 | 165=>325 | 166=>100 | 169=>103 | 240=>157 | 241=>335 | 276=>212 | 277=>336 | n=>n,fun | 31=>215 | 9=>9 | 3=>3 | 4=>4 | 0=>0 | 20=>20 | 72=>212 | 76=>220 | 70=>210 | 37=>35 | 75=>219 | 127=>321 | 164=>392 | 5=>5 | 80=>224 | n=>n,fun | n=>n⟩
theorem NQ:Go.Proofs.Lays.n156 prog NP:=by
 constructor
 all_goals first | kernel_rfl | (intro w;rfl)
def Oh:Go.Shelf.Ren:=⟨fun | 171=>159 | 243=>213 | 246=>265 | 283=>295 | 284=>296 | 285=>297 | 286=>298 | 129=>230 | 317=>321 | 318=>322 | 319=>323 | 320=>324 | 337=>333 | 338=>334 | n=>n,fun | 3=>3 | 9=>9 | 2=>2 | 4=>4 | 171=>463 | 0=>0 | 53=>231 | 37=>35 | 5=>5 | 173=>465 | 212=>493 | 51=>38 | 20=>20 | 213=>494 | 46=>335 | 232=>503 | 233=>504 | n=>n,fun | 17=>3 | 18=>4 | 19=>5 | n=>n⟩
theorem OX:Go.Proofs.LaysM.n171 prog Oh:=by
 constructor
 all_goals first | kernel_rfl | (intro w;rfl) | (constructor<;>first | kernel_rfl | (intro w;rfl))
def NW:Nat:=0
def EF:String:=(Rows.topEndsRow.laid.map Prod.fst).getD 2 default
theorem bldX:Builder.Extra prog NP:={sizeBuilder:=by kernel_rfl,liesBuilder:=by kernel_rfl,t5:=underlying5,a5:=isAgg5,z5:=sizeOf5,v5:=zeroValue5,infoByte:=by kernel_rfl,cellsByte:=by kernel_rfl,sizeByte:=by kernel_rfl,neB5:=by decide}
theorem OG (s d:ByteArray) {G:Int} (w:World) (J:s.size<4294967281) (I:w.cell? ⟨NW,0,none⟩=some (ι G)) (H:1<=d.size):
  Calls prog 98 #[.string s,.string d] w λe w'=>e= .returned (δ (some ⟨w.heap.size,0,none⟩) (Lib.countB s d+1) (Lib.countB s d+1))/\w'=w.alloc (.cells ((Lib.splitB d 0 (Lib.countB s d) s).map Value.string).toArray 9):=
 Any.strings_Split {lays146 with} ξ s d G w J I H
theorem OA (w:World) (k:Nat) (os:Array Obj):qa w (Go.Sort.grow (w.drewN k) os):=⟨rfl,rfl,rfl,by simp[Go.Sort.grow,World.drewN],λb d=>by show (w.heap++os)[b]? =_;exact Array.getElem?_append_left d⟩
theorem Re (n:Int) (h:0<=n/\n<=1000000000000) (w:World) (d:Lib.TabIs prog w EF .u64 Lib.pow10Tab):
  Calls prog 159 #[ι n] w λe w'=>e= .returned (.string ⟨(Lib.itoa n).toArray⟩)/\qa w w':=by
 refine(Any.strconv_Itoa OX n τ τ w d).mono ?_;rintro e w' ⟨rfl,k,os,rfl⟩;exact⟨rfl,OA w k os⟩
theorem Rd (d o c:Nat) (xs:List ByteArray) (G:ByteArray) (w:World) (J: ∀(j:Nat) x,xs[j]? =some x->w.cell? ⟨d,o+j,none⟩=some (.string x)) (I:d<w.heap.size) (U:xs.length<=1000) (N:xs.length<=c) {r:List UInt8} (H:Lib.join (xs.map (·.data.toList)) G.data.toList=r) (O:r.length<=1000):
  Calls prog 299 #[δ (some ⟨d,o,none⟩) xs.length c,.string G] w λe w'=>e= .returned (.string ⟨r.toArray⟩)/\qa w w':=by
 have h:=Any.strings_Join {NQ with} bldX d o c xs G w J I τ N (by rw[H];omega);rw[H] at h;exact h
theorem Rc (B b:Nat) (l:List UInt8) (w:World) (h:Lib.IsBuilder 212 5 B b (Lib.byteCells l) w) (d:B<=w.heap.size):
  Calls prog 103 #[γ b] w λe w'=>e= .returned (.string ⟨l.toArray⟩)/\Below B w w':=
 Any.Builder_String_any {NQ with} bldX B b l w h d
end
theorem V2 {w w':World} (h:Lib.TabIs prog w EF .u64 Lib.pow10Tab) (m:qa w w'):Lib.TabIs prog w' EF .u64 Lib.pow10Tab:=Joins.tab_stays (g:=3) ξ h m (Nat.le_refl _)
def itB (n:Int):ByteArray:=⟨(Lib.itoa n).toArray⟩
theorem je.tx {w:World} {base:Nat} {D:Nat->Prop} {v:Value} {L:List ByteArray} (h:je 1 RTx D w base 9 v L) (ab:0<L.length): ∃g cap,v= δ (some ⟨g,0,none⟩) L.length cap/\L.length<=cap/\g<w.heap.size/\ ∀(j:Nat) x,L[j]? =some x->w.cell? ⟨g,0+j,none⟩=some (.string x):=by
 have N:=h.sl ζ;obtain⟨⟨xs,U,r⟩,_⟩:=h;rcases id U.2 with ⟨rfl,Y⟩ | ⟨g,cap,cur,rfl,aa,I,H,ac,_⟩
 ·omega
 ·refine⟨g,cap,rfl,H,lt_of_block I,λj x O=> ?_⟩;obtain⟨J,e⟩:=List.getElem?_eq_some_iff.1 O;obtain⟨b,ad,d,G⟩:=N.strs (qa.refl _) j J;injection d with d
  injection d with e3 e4 _
  subst e3 e4;rw[G,e]
theorem Oo (af:ByteArray) (d:List Int) (g cap:Nat) (w:World) (aj: ∀i y,d[i]? =some y->w.cell? ⟨g,i,none⟩=some (ι y)) (O:g<w.heap.size) (aF:0<d.length) (aP:d.length<=20) (J: ∀n∈d,0<=n/\n<=1000000000000) (an:Lib.TabIs prog w EF .u64 Lib.pow10Tab)
  {r:List UInt8} (am:Lib.join (d.map Lib.itoa) af.data.toList=r) (aE:r.length<=1000):
  Calls prog 268 #[.string af,δ (some ⟨g,0,none⟩) d.length cap] w λe w'=>e= .returned (.string ⟨r.toArray⟩)/\qa w w':=by
 obtain⟨aL,hi,aG,aH,aI⟩:=info_parts (P:=prog) (e:=9) (z:= .string ByteArray.empty) (size:=1) (bytes:=16) ξ;have aw:=κ (λw' (m:qa w w')=>V2 an m);have ao:Hid (∀wr,qa w wr-> ∀i (hi:i<d.length),wr.cell? ⟨g,i,none⟩=some (ι d[i])):=κ (λwr m i hi=>by rw[m.cells _ _ O];exact aj i _ (List.getElem?_eq_getElem hi));have au:Hid (∀i (hi:i<d.length),0<=d[i]/\d[i]<=1000000000000):=κ (λi hi=>J _ (List.getElem_mem hi));have ar:=κ am;clear aj J an am
 go_enter func268,ntmps268
 go_wp2
 go_loopw [5,10] (λu ac wr=> ∃i:Nat,i<=d.length/\ac= ι i/\(∃ae ad Y,u= δ ae ad Y)/\je 1 RTx (λ_=>False) wr w.heap.size 9 u ((d.take i).map itB)/\qa w wr) (λ_ ac _=>d.length-(intOf ac).toNat)
 case atStart=>exact⟨0,τ,rfl,⟨_,_,_,rfl⟩,je.nil _ _ _ _ _ _,qa.refl _⟩
 case round=>
  obtain⟨i,aQ,rfl,⟨ae,ad,Y,rfl⟩,J,ak⟩:=hrel;have U:=κ J;have N:=κ ak;clear J ak;by_cases hlt:i<d.length
  ·have aD:(i:Int)<(d.length:Int):=by omega
   have aN:=ao.o wr N.o i hlt;have aq:=κ (Re d[i] (au.o i hlt) wr (aw.o wr N.o));have ax:Hid ((d.take (i+1)).map itB=(d.take i).map itB++[itB d[i]]):=κ (by rw[List.take_succ_eq_append_getElem hlt,List.map_append];rfl);have aR:((d.take i).map itB).length<=20:=by rw[List.length_map,List.length_take];omega
   generalize d[i]=y at *;generalize (d.take i).map itB=fl at *;have ap:Hid (∀b,(δ ae ad Y).ownBlock=some b->w.heap.size<=b):=κ (λb h=>U.o.ge h)
   go_wp2_with (first | (go_at_call 159;(go_call aq.o as e w5 ⟨rfl,H⟩;have I:=κ (N.o.trans H);have ay:=κ ((U.o.on H).on (qa.alloc w5 (.cells #[.string (itB y)] 9)));clear H)) | (at_builtin;(refine jN (R:=RTx) (D:=λ_=>False) _ rfl (.tmp 14) (.tmp 17) 215 rfl w.heap.size 9 aL (.string ByteArray.empty) 1 16 underlying215 hi aG aH aI rfl ζ _ fl rfl ay.o w5.heap.size [.string (itB y)] (itB y) rfl rfl (zS (by simp[itB])) (by simp[Value.oneCell']) (λw' _=>rfl) (λb h=>h.elim) ζ τ (I.o.al _).size ?_;intro v' w8 G O aC;have aM:Hid (qa w w8):=κ (Below.grown (I.o.al _) O (I.o.al _).size ap.o);obtain⟨aT,aS,aO,rfl,aJ,aK⟩:=G.shape;have az:=κ G;clear G O aC aJ aK)))
   go_roundw
   case rel=>exact⟨i+1,τ,by go_num,⟨_,_,_,rfl⟩,by rw[ax.o];exact az.o,aM.o⟩
   case measure=>simp[intOf];omega
  ·obtain rfl:i=d.length:=by omega
   have aD: ¬(d.length:Int)<(d.length:Int):=by omega
   have G:=U.o;rw[List.take_length] at G;obtain⟨aB,aA,aa,ag,ah,ai⟩:=G.tx (by rw[List.length_map];exact aF);have ab:=Rd aB 0 aA (d.map itB) af wr ai ah (by rw[List.length_map];omega) ag (r:=r) (by rw[<-ar.o,List.map_map];rfl) aE;rw[List.length_map] at ab aa;have av:=κ ab;clear ab;rw[aa];clear G aa ag ah ai
   go_wp2_with ((go_at_call 299;(go_call av.o as e w5 ⟨rfl,H⟩;have I:=κ (N.o.trans H);clear H)))
   go_ret;exact⟨rfl,I.o⟩
theorem OR (x:ByteArray) (g cap:Nat) (w:World) (d:w.cell? ⟨g,0,none⟩=some (.string x)) (U:g<w.heap.size) (O:1<=cap) (Y:x.data.toList.length<=1000):
  Calls prog 300 #[δ (some ⟨g,0,none⟩) 1 cap] w λe w'=>e= .returned (.string x)/\qa w w':=by
 have G:(⟨x.data.toList.toArray⟩:ByteArray)=x:=by simp
 have J:Hid (Calls prog 299 #[δ (some ⟨g,0,none⟩) 1 cap,.string ⟨#[32]⟩] w λe w'=>e= .returned (.string x)/\qa w w'):=κ (by
  have h:=Rd g 0 cap [x] ⟨#[32]⟩ w (λj y H=>by
   have:j=0:=by
    have:=(List.getElem?_eq_some_iff.1 H).1;simp at this;exact this
   subst this;have:x=y:=by simpa using H
   subst this
   exact d) U η O (r:=x.data.toList) (Lib.join_one _ _) Y
  rw[G] at h
  exact h)
 clear d G
 go_enter func300,ntmps300
 go_wp2_with ((go_at_call 299;(go_call J.o as e w5 ⟨rfl,I⟩;have N:=κ I;clear I)))
 go_ret;exact⟨rfl,N.o⟩
theorem Oa (j:Nat) (h:j<5):tpP (j+1)=((tpP j).pick (wkT.getD j (0,0)) true).1:=by
 match j,h with
 | 0,_=>rfl
 | 1,_=>rfl
 | 2,_=>rfl
 | 3,_=>rfl
 | 4,_=>rfl
theorem OJ {j:Nat} (h:j<5):(tpP j).pick ((wkT.getD j (0,0)).1,(wkT.getD j (0,0)).2) true=(tpP (j+1),true):=by
 refine Prod.ext (Oa j h).symm ?_;have:=tq6 j h;unfold RmS.pick;rw[if_pos this]
theorem tkP (j:Nat) (d:j<=5):qV (4+j) (tpP j):=by
 induction j with
 | zero=>exact tk4
 | succ j ih=>
  rw[Oa j τ];exact(ih τ).pick _ _
theorem Rf {H w:World} {pb:Nat} {F:List Nat} (h:Pl H pb (some tp4) F w):
  Calls prog 267 #[γ pb,ι 1] w λe w'=>e= .returned (ι 5)/\Pl H pb (some tp5) F w'/\ql pb F w w':=by
 have J:=κ h;clear h
 go_enter func267,ntmps267
 go_wp2
 go_loopw [5,9] (λu I wr=>(I= ι 0/\u= ι 0/\w=wr)∨(I= ι 1/\u= ι 5/\Pl H pb (some tp5) F wr/\ql pb F w wr)) (λ_ I _=>1-(intOf I).toNat)
 case atStart=>exact Or.inl ⟨rfl,rfl,rfl⟩
 case round=>
  rcases hrel with ⟨rfl,rfl,rfl⟩ | ⟨rfl,rfl,N,t5⟩
  ·obtain⟨R,ay,av⟩:=J.o.room;have Y:w.cell? ⟨pb,0,none⟩=some (π (some ⟨R,0,none⟩)):=qb av 0 rfl;have ag:=κ (NX ay);rw[tq5] at ag;clear ay av
   go_wp2_with ((go_at_call 26;(go_call ag.o as e w8 ⟨v8,rfl,al,aD⟩;obtain⟨aU,cap,rfl,aC⟩:=LP al;have ah:=κ aC;have ai:=κ al;have ar:=κ aD;clear al aC aD)))
   obtain⟨d,rfl,_,_⟩:=ah.o.2 _ (qa.refl _) 0 ζ;have aA:w.heap.size<=d:=ai.o.ge rfl;have aT:d<w8.heap.size:=ai.o.lt rfl
   have ap:Hid (∀j (ac:j<5),w8.cell? ⟨d,j* 2,none⟩=some (ι (wkT.getD j (0,0)).1)/\w8.cell? ⟨d,j* 2+1,none⟩=some (ι (wkT.getD j (0,0)).2)):=κ (λj ac=>by
    obtain⟨b,e,aP,aQ⟩:=ah.o.2 _ (qa.refl _) j ac;injection e with e
    injection e with e _ _
    subst e;have e:wkT.getD j (0,0)=wkT[j]:=by rw[List.getD_eq_getElem?_getD,List.getElem?_eq_getElem ac];rfl
    rw[e]
    exact⟨aP,aQ⟩)
   have an:Hid (Pl H pb (some tp4) ([d]++F) w8):=κ (J.o.adds ar.o (λb G=>by simp at G;subst G;exact⟨aA,aT⟩));have aR:Hid (d≠pb):=κ (λe=>by have:=J.o.lt pb J.o.1;omega);have aN:=κ (J.o.stay ar.o);clear aA ah ai ag Y
   go_loopw [5,17] (λu I aF=> ∃j:Nat,j<=5/\I= ι j/\u= ι j/\Pl H pb (some (tpP j)) ([d]++F) aF/\ql pb ([d]++F) w8 aF) (λ_ I _=>5-(intOf I).toNat)
   case atStart=>exact⟨0,τ,rfl,rfl,an.o,ql.refl⟩
   case round=>
    obtain⟨j,ac,rfl,rfl,aB,aE⟩:=hrel;have aa:=κ aB;have aj:=κ aE;clear aB aE an;by_cases hlt:j<5
    ·have aS:(j:Int)<5:=by omega
     have am:=aj.o.2 d η aR.o;obtain⟨Y,c1⟩:=ap.o j hlt;rw[<-World.cell?_of_block am] at Y c1;have aq:=κ (OJ hlt);have aK:=κ (tkP j τ);have aJ:Hid (4+j<=1000):=κ τ;generalize wkT.getD j (0,0)=y at *;obtain⟨ad,ae⟩:=y;simp only at Y c1 aq;obtain⟨W1,ak⟩:=ν (wr.alloc (.cells #[ι ad,ι ae] 37));have au:Hid (qa wr W1):=κ (by rw[<-ak];exact qa.alloc _ _);have O:Hid (W1.heap[wr.heap.size]? =some (.cells #[ι ad,ι ae] 37 (0,0))):=κ (by rw[<-ak];exact qj wr _);have U:Hid (Pl H pb (some (tpP j)) ([wr.heap.size]++([d]++F)) W1):=κ (aa.o.adds au.o (λb G=>by simp at G;subst G;exact⟨Nat.le_refl _,qn O.o⟩));obtain⟨aM,az,aw⟩:=U.o.room;have af:=κ az;have ao:=κ aw;have aL: ∀x:qz (λb=>H.heap.size<=b/\b∉[wr.heap.size]++([d]++F)) W1,x.w'.cell? ⟨pb,0,none⟩=some (π (some ⟨aM,0,none⟩)):=λx=>x.cell (U.o.lt pb U.o.1) (λc=>c.2 U.o.1) (qb ao.o 0 rfl)
     have aH: ∀x:qz (λb=>H.heap.size<=b/\b∉[wr.heap.size]++([d]++F)) W1,x.w'.cell? ⟨wr.heap.size,0,none⟩=some (ι ad):=λx=>x.cell (qn O.o) (λc=>c.2 η) (qb O.o 0 rfl)
     have aI: ∀x:qz (λb=>H.heap.size<=b/\b∉[wr.heap.size]++([d]++F)) W1,x.w'.cell? ⟨wr.heap.size,1,none⟩=some (ι ae):=λx=>x.cell (qn O.o) (λc=>c.2 η) (qb O.o 1 rfl)
     clear az aw am ap
     go_upto_region 7 with fail
     clear ak Y c1;refine QN (λb=>H.heap.size<=b/\b∉[wr.heap.size]++([d]++F)) W1 6 6 [5] ?_
     refine Qs5 ?_
     clear aL aH aI
     (refine Ql ?_;intro K ax)
     go_call F7 (af.o.on (qa.drewN W1 1)) aK.o aJ.o ad ae true aq.o as e w5 ⟨rfl,N,t5⟩;have aG:Hid (qg (λb=>H.heap.size<=b/\b∉[wr.heap.size]++([d]++F)) W1 w5):=κ (((qg.refl _ W1).drewN 1).trans ((af.o.on (qa.drewN W1 1)).away N t5));refine⟨_,rfl,qi aG.o,ax _ _ ?_⟩;clear ax K;refine qA ?_;have ab:=κ (U.o.step ao.o N (qw.trans (af.o.stay (qa.drewN W1 1)) t5));clear N t5;go_wp2;go_roundw
     case rel=>exact⟨j+1,τ,by go_num,by go_num,ab.o.1.sub (λb G=>List.mem_append_right _ G) aa.o.1,aj.o.trans ((aa.o.stay au.o).trans (ab.o.2.sub (λb G=>List.mem_append_right _ G)))⟩
     case measure=>simp[intOf];omega
    ·obtain rfl:j=5:=by omega
     have aS: ¬((5:Nat):Int)<5:=by omega
     go_wp2;go_roundw
     case rel=>exact Or.inr ⟨by go_num,by go_num,aa.o.sub (λb G=>List.mem_append_right _ G) J.o.1,aN.o.trans (aj.o.sub (λb G=>List.mem_append_right _ G))⟩
     case measure=>simp[intOf]
  ·have ab:=κ N;have aO:=κ t5;clear N t5;go_wp2;go_ret;exact⟨rfl,ab.o,aO.o⟩
def wrB:List Int:=[128,96,0,5,0,0,0,100,0,0,0,50,16,0]
theorem Rw:Lib.itoa 5=[53]:=by simp[Lib.itoa,Lib.decDigits]
theorem RS:Lib.join ([0,5,100].map Lib.itoa) [58]=[48,58,53,58,49,48,48]:=by simp[Lib.itoa,Lib.decDigits,Lib.join,List.intercalate]
theorem rdT:jl wrB=(⟨false,96,5,100,50,[],false,0,[],[16,0]⟩,0):=by kernel_rfl
theorem Ru {w:World} {v:Value} (U:SlI .u8 w v wrB):Calls prog 16 #[v] w λe w'=> ∃I J N d G H,e= .returned (.tuple #[θ #[μ false,υ 96,φ 5,ω 100,ω 50,δ I 0 d,false,φ 0,δ J 0 G,δ N 2 H],ι 0])/\qa w w':=by
 refine(Ky v wrB w U (Byt.of_all ζ) ζ).mono ?_;rintro e w' ⟨Y,vb,aa,O,ps,m⟩;rw[rdT] at O ps;obtain⟨⟨I,d,rfl,-⟩,⟨J,G,rfl,-⟩,⟨N,H,rfl,-⟩⟩:=ps;exact⟨I,J,N,d,G,H,O,m⟩
theorem RH {aa w:World} {R:Nat} {F:List Nat} (h:RmR aa w R tp5 F):Calls prog 14 #[γ R,ι 0] w λe w'=> ∃g cap b H d,e= .returned (δ (some ⟨g,0,none⟩) 1 cap)/\w'.cell? ⟨g,0,none⟩=some (ι 0)/\w'.cell? ⟨g,1,none⟩=some (δ (some ⟨b,H,none⟩) 14 d)/\SlI .u8 w' (δ (some ⟨b,H,none⟩) 14 d) wrB/\qa w w':=by
 refine(MO h 0 (by rw[tq7];decide)).mono ?_;rintro e w' ⟨⟨v,rfl,G⟩,m⟩;rw[tq7] at G;have Y:=G.sl ζ;obtain⟨ai,cap,rfl,_,O,_⟩:=Y;obtain⟨g,H,cs,rfl,af,ae,J,v,rfl,I,_,_,ag,_⟩:=O 0 ζ;obtain⟨⟨xs,⟨_,U⟩,_⟩,_⟩:=id G;rcases U with ⟨e,_⟩ | ⟨g',ab,cur,e,ac,_⟩
 ·cases e
 ·injection e with e1 _ _
  injection e1 with e1
  injection e1 with e1 e2 _
  subst e1 e2;obtain⟨aj,d,rfl,_⟩:=id I;obtain⟨b,N,rfl,ad,ah⟩:=I.addr ζ;exact⟨g,cap,b,N,d,rfl,J 0 ζ,J 1 ζ,I,m⟩
theorem OV {aI w:World} {pb:Nat} {F:List Nat} (h:Pl aI pb (some tp5) F w) (aB:Lib.TabIs prog aI EF .u64 Lib.pow10Tab):
  Calls prog 269 #[γ pb,ι 0] w λe w'=>e= .returned (.string ⟨#[48,58,53,58,49,48,48]⟩)/\qa w w':=by
 obtain⟨ba,hi,aV,aW,aX⟩:=info_parts (P:=prog) (e:=9) (z:= .string ByteArray.empty) (size:=1) (bytes:=16) ξ;obtain⟨R,ax,aw⟩:=h.room;have ao:w.cell? ⟨pb,0,none⟩=some (π (some ⟨R,0,none⟩)):=qb aw 0 rfl;have aN:=κ (V2 aB h.2.2.1);have aj:=κ (RH ax);clear h ax aw aB
 go_enter func269,ntmps269
 go_wp2_with ((go_at_call 14;(go_call aj.o as e w8 ⟨g,cap,b,ah,ag,rfl,ap,aq,aH,aE⟩;have an:=κ aH;have ak:=κ aE;clear aH aE)))
 go_loopw [5,17] (λu H wr=>(H= ι 0/\u= δ none 0 0/\w8=wr)∨(H= ι 1/\(∃aG ae,u= δ aG 1 ae)/\je 1 RTx (λ_=>False) wr w8.heap.size 9 u [⟨#[48,58,53,58,49,48,48]⟩]/\qa w8 wr)) (λ_ H _=>1-(intOf H).toNat)
 case atStart=>exact Or.inl ⟨rfl,rfl,rfl⟩
 case round=>
  rcases hrel with ⟨rfl,rfl,rfl⟩ | ⟨rfl,⟨aG,ae,rfl⟩,aA,az⟩
  ·have ai:=κ (Ru (an.o.keep (qa.alloc w8 (.cells #[ι 0,δ (some ⟨b,ah,none⟩) 14 ag] 56))))
   go_upto_region 6 with ((go_at_call 16;(go_call ai.o as e w9 ⟨O,U,Y,I,J,N,rfl,aF⟩;have ad:=κ aF;clear aF)))
   have G:=qc ad.o (qj w8 (.cells #[ι 0,δ (some ⟨b,ah,none⟩) 14 ag] 56));have ab:=qj w9 (.cells #[μ false,υ 96,φ 5,ω 100,ω 50,δ O 0 I,false,φ 0,δ U 0 J,δ Y 2 N] 63);have G:=qs G (.cells #[μ false,υ 96,φ 5,ω 100,ω 50,δ O 0 I,false,φ 0,δ U 0 J,δ Y 2 N] 63);have aQ:=κ (((qa.alloc w8 (.cells #[ι 0,δ (some ⟨b,ah,none⟩) 14 ag] 56)).trans ad.o).al (.cells #[μ false,υ 96,φ 5,ω 100,ω 50,δ O 0 I,false,φ 0,δ U 0 J,δ Y 2 N] 63));generalize w9.alloc (.cells #[μ false,υ 96,φ 5,ω 100,ω 50,δ O 0 I,false,φ 0,δ U 0 J,δ Y 2 N] 63)=W9 at *;have bf:=β0 G;have bg:=β2 ab;have bh:=β3 ab;have aa:=qj W9 (.cells #[ι 0,ι 5,ι 100] 3);have am:=κ (aQ.o.al (.cells #[ι 0,ι 5,ι 100] 3))
   have aM:Hid (Calls prog 268 #[.string ⟨#[58]⟩,δ (some ⟨W9.heap.size,0,none⟩) 3 3] (W9.alloc (.cells #[ι 0,ι 5,ι 100] 3)) λe w'=>e= .returned (.string ⟨#[48,58,53,58,49,48,48]⟩)/\qa (W9.alloc (.cells #[ι 0,ι 5,ι 100] 3)) w'):=κ (Oo ⟨#[58]⟩ [0,5,100] W9.heap.size 3 _ (λi y d=>qb aa i (by
    match i,d with
    | 0,d=>simpa using d
    | 1,d=>simpa using d
    | 2,d=>simpa using d)) (qn aa) ζ ζ ζ (V2 aN.o (ak.o.trans am.o)) RS ζ)
   clear G ab aa ap aq ai ad an aj ao
   go_wp2_with (first | (go_at_call 268;(go_call aM.o as e w10 ⟨rfl,aC⟩;have ac:=κ (am.o.trans aC);clear aC)) | (at_builtin;(refine jN (R:=RTx) (D:=λ_=>False) _ rfl (.tmp 27) (.tmp 40) 215 rfl w8.heap.size 9 ba (.string ByteArray.empty) 1 16 underlying215 hi aV aW aX rfl ζ _ [] rfl (je.nil _ _ _ _ _ _) w10.heap.size [.string ⟨#[48,58,53,58,49,48,48]⟩] ⟨#[48,58,53,58,49,48,48]⟩ rfl rfl (zS η) (by simp[Value.oneCell']) (λw' _=>rfl) (λb h=>h.elim) ζ ζ (ac.o.al _).size ?_;intro v' bc af ay aU;have aO:Hid (qa w8 bc):=κ (Below.grown (ac.o.al _) ay (ac.o.al _).size (λb h=>by cases h));obtain⟨bi,bb,be,rfl,aY,aZ⟩:=af.shape;obtain rfl:bb=1:=aY;have aR:=κ af;clear af ay aU aZ)))
   go_roundw
   case rel=>exact Or.inr ⟨by go_num,⟨_,_,rfl⟩,aR.o,aO.o⟩
   case measure=>simp[intOf]
  ·clear ao ap aq;have aL:=κ aA;have aK:=κ az;clear aA az;obtain⟨aT,bd,aS,ar,au,av⟩:=aL.o.tx ζ;injection aS with e3 e4 e5
   subst e3 e5;have aJ:=κ (OR ⟨#[48,58,53,58,49,48,48]⟩ aT ae wr (av 0 _ rfl) au ar ζ);clear ar au av e4
   go_wp2_with ((go_at_call 300;(go_call aJ.o as e w5 ⟨rfl,aD⟩;have aP:=κ aD;clear aD)))
   go_ret;exact⟨rfl,ak.o.trans (aK.o.trans aP.o)⟩
end Go.Proofs.YtlmllmonabafjaaGreatDoor
