/- x -/
import Derived.Test.YtlmllmonabafjaaGreatDoorMi2
namespace Go.Proofs.YtlmllmonabafjaaGreatDoor
open Option renaming some->ϊ,none->ϋ
open Bool renaming true->ό,false->ύ
open Go.Value renaming bool->μ,slice->δ,pointer->π,agg->θ
open Go.IntKind renaming i64->ι,u8->υ,u16->φ,u32->ω,i32->χ,u64->ψ
open _root_.Go.Proofs.Tryz
set_option linter.all false
set_option maxHeartbeats 8000000
open Go.RowKit
set_option maxRecDepth 100000
variable {w w':World} {css q:List (List Value)} {xs:List Value} {v vo:Value} {S N:Nat->Prop} {b base first room size:Nat} {s s':LnS}
def LM (w:World):(zeroValue 56).run prog w= .ok (Γs) w:=by kernel_rfl
def zsO:(Builtin.zeroCells (Γs:Value).cells 1).toList=Γs:=by kernel_rfl
def zokO:(Γs:List Value).length=2/\ ∀u∈(Γs:List Value),u.oneCell'=ό:=⟨rfl,by simp[Value.oneCell']⟩
section
open _root_.Go.Proofs.Tryz renaming func232->Ξb,ntmps232->Ξc,underlying56->Ξg,underlying53->Ξi,results232->Ξm
open _root_.Go.Proofs.YtlmllmonabafjaaGreatDoor renaming Ν2->Ξa,Γs->Ξd,Ν56->Ξe,Ν332->Ξf,Ν53->Ξh,LM->Ξj,zsO->Ξk,zokO->Ξl
def DJ (w:World) (R A room first:Nat) (c:List Value) (T:List (List Value)) (ad ae ab ac:Int) (css:List (List Value)) (h:qN 2 332 56 w R A room first (c::T) ad ae ab ac css):
  Calls prog 232 #[γ R] w λe w'=>e= .returned (θ c.toArray)/\qN 2 332 56 w' R A room ((first+1)%room) T ad ae ab ac (css.set first Γs)/\jt (RgB R A) w w':=Ψ2
end
def Nh {R A:Nat} {H I d G:Int} (h:qN 2 332 56 w R A room first q H I d G css):
  Calls prog 115 #[γ R] w λe w'=>e= .returned (ι q.length)/\w'=w:=by
 have J:w.cell? ⟨R,2,ϋ⟩=ϊ (ι q.length):=qm h.ring 2 rfl;clear h
 go_enter func115,ntmps115
 go_wp2;go_ret;exact⟨rfl,rfl⟩
section
open _root_.Go.Proofs.Tryz renaming func258->Ξa,ntmps258->Ξb
def Mi {R A:Nat} {H I d G:Int} (h:qN 2 332 56 w R A room first q H I d G css):
  Calls prog 258 #[γ R] w λe w'=>e= .returned (μ (decide (q.length=room)))/\ ∃k,w'=w.drewN k:=Ψ3
end
def mkO (n:Nat) (M:1<=n) (N:n<=8) (w:World):
  (Instr.makeSlice 53 (ι (n:Int)) (ι (n:Int))).run prog w= .ok (δ (ϊ ⟨w.heap.size,0,ϋ⟩) n n) (w.alloc (.cells (List.replicate n (Γs:List Value)).flatten.toArray 56)):=by
 obtain⟨J,hi,G,H,I⟩:=info_parts (P:=prog) (e:=56) (z:= Γs) (size:=2) (bytes:=32) ξ;have d:=run_make (P:=prog) w 53 56 J (Γs) underlying53 hi G .i64 .i64 n n τ τ (by rw[I];omega) τ;rw[d];simp only[ο,H];rw[Yq _ 2 n rfl ζ];rfl
def Po (m:Int) (n:Nat) (I:m=n) (d:1<=n) (G:n<=8) (w:World):
  Calls prog 148 #[ι m] w λe w'=>e= .returned (.tuple #[γ (w.heap.size+1),ι 0])/\qN 2 332 56 w' (w.heap.size+1) w.heap.size n 0 [] 0 0 0 0 (List.replicate n (Γs:List Value))/\ql w w':=by
 subst I;have J:1<=(n:Int):=by omega
 go_enter func148,ntmps148
 have M:=mkO n d G;go_wp2;refine bodyPost_ret (v:= .tuple #[γ (w.heap.size+1),ι 0]) (by simp[results,results148,go_sem]) rfl ?_;refine⟨rfl, ?_,ρ⟩;exact⟨qC η,qs (qB (qj _ _) rfl) _,τ,η,λc H=>by rw[F8 H];exact zokO,⟨d,G⟩,τ,η,λi hi=>by simp at hi⟩
section
open _root_.Go.Proofs.Tryz renaming func175->Ξb,ntmps175->Ξc,results175->Ξg,underlying56->Ξh
open _root_.Go.Proofs.YtlmllmonabafjaaGreatDoor renaming Ν2->Ξa,DJ->Ξd,Γs->Ξe,Ν56->Ξf
def Na (w:World) (R A room first:Nat) (c:List Value) (T:List (List Value)) (I N G H:Int) (css:List (List Value)) (h:qN 2 332 56 w R A room first (c::T) I N G H css):
  Calls prog 175 #[γ R] w λe w'=>e= .returned (.tuple #[θ c.toArray,ό])/\(∃co',qN 2 332 56 w' R A room ((first+1)%room) T I co' G H (css.set first Γs))/\jt (RgB R A) w w':=Ψ4
end
section
open _root_.Go.Proofs.Tryz renaming func202->Ξc,ntmps202->Ξd,underlying56->Ξj,results202->Ξk
open _root_.Go.Proofs.YtlmllmonabafjaaGreatDoor renaming Ν56->Ξa,Γs->Ξb,Mi->Ξe,Ν2->Ξf,Ν332->Ξg,zokO->Ξh,DJ->Ξi
def OW (w:World) (R A room first:Nat) (N:List (List Value)) (Y ai U ah:Int) (css:List (List Value)) (h:qN 2 332 56 w R A room first N Y ai U ah css) (x:List Value) (ac:x.length=2/\ ∀u∈x,u.oneCell'=ό) (aa:Bool) (aO:decide (N.length=room)=aa):
  Calls prog 202 #[γ R,θ x.toArray] w λe w'=> ∃(G:List Value) (f:Nat) (q:List (List Value)) (H:Int) (cs:List (List Value)),e= .returned (.tuple #[θ G.toArray,aa,ι 0])/\(∃ci',qN 2 332 56 w' R A room f (q++[x]) ci' ai H ah (cs.set ((f+q.length)%room) x))/\jt (RgB R A) w w'/\Wt Γs first room N css U aa G f q H cs:=Ψ5
end
def UD (w:World) (R A room first:Nat) (q:List (List Value)) (I H d G:Int) (css:List (List Value)) (h:qN 2 332 56 w R A room first q I H d G css) (ac:q.length<room) (x:List Value) (ab:x.length=2/\ ∀u∈x,u.oneCell'=ό):
  Calls prog 202 #[γ R,θ x.toArray] w λe w'=>e= .returned (.tuple #[Γs,μ ύ,ι 0])/\(∃ci',qN 2 332 56 w' R A room first (q++[x]) ci' H d G (css.set ((first+q.length)%room) x))/\jt (RgB R A) w w':=
 (OW w R A room first q I H d G css h x ab ύ (ϫ τ)).mono λe w' ⟨_,_,_,_,_,Y,aa,a,J,M,N,O,U⟩=>by
  subst J M N O U;exact⟨Y,aa,a⟩
def UE (w:World) (R A room first:Nat) (c:List Value) (T:List (List Value)) (N I M G:Int) (css:List (List Value)) (h:qN 2 332 56 w R A room first (c::T) N I M G css) (aa:(c::T).length=room) (x:List Value) (ac:x.length=2/\ ∀u∈x,u.oneCell'=ό):
  Calls prog 202 #[γ R,θ x.toArray] w λe w'=>e= .returned (.tuple #[θ c.toArray,ό,ι 0])/\(∃H d,qN 2 332 56 w' R A room ((first+1)%room) (T++[x]) H I d G ((css.set first Γs).set (((first+1)%room+T.length)%room) x))/\jt (RgB R A) w w':=
 (OW w R A room first (c::T) N I M G css h x ac ό (ϭ aa)).mono λe w' ⟨ad,f,q,d,cs,Y,⟨H,ab⟩,a,J,O,U⟩=>by
  injection J with J h4
  subst J O U h4;exact⟨Y,⟨H,d,ab⟩,a⟩
def Af (c:List Value) (h:c.length=2): ∃a0 a1,c=[a0,a1]:=by
 match c,h with
 | [a0,a1],_=>exact⟨a0,a1,rfl⟩
def YC {e n m:Nat} (h:w.ownsRow base e n v m xs) (a:jt S w w') (H: ∀b,base<=b-> ¬S b):w'.ownsRow base e n v m xs:=by
 obtain⟨d,G⟩:=h;refine⟨d, ?_⟩;rcases G with h | ⟨b,cap,cur,e1,hb,hg,rest⟩
 ·exact ϒ h
 ·exact ϔ ⟨b,cap,cur,e1,hb,a.blk hg (H b hb),rest⟩
def um {e n:Nat} (h:w.ownsRow base e size v n xs) (d:v.ownBlock=ϊ b):base<=b:=by
 rcases h.2 with ⟨rfl,_⟩ | ⟨g,cap,cur,rfl,G,_⟩
 ·cases d
 ·obtain rfl:g=b:=by injection d
  exact G
def VI {e n:Nat} (h:w.ownsRow base e size v n xs): ∃oa cap,v= δ oa n cap:=by
 rcases h.2 with ⟨rfl,d⟩ | ⟨g,cap,cur,rfl,_⟩
 ·exact⟨ϋ,0,by rw[d]⟩
 ·exact⟨_,cap,rfl⟩
def IM (w:World) (R A room first:Nat) (q:List (List Value)) (J M H I:Int) (css:List (List Value)) (h:qN 2 332 56 w R A room first q J M H I css):
  Calls prog 186 #[γ R] w λe w'=> ∃v,e= .returned v/\w'.ownsRow w.heap.size 56 2 v q.length q.flatten/\(∃first' cg' css',qN 2 332 56 w' R A room first' [] J M H cg' css')/\jt (RgB R A) w w':=by
 obtain⟨aG,aH,aI,aJ,aK⟩:=info_parts (P:=prog) (e:=56) (z:= Γs) (size:=2) (bytes:=32) ξ;have aq:=κ h;have aO:R<w.heap.size:=qn h.ring;have aN:A<w.heap.size:=qn h.row;have aU:w.cell? ⟨R,2,ϋ⟩=ϊ (ι q.length):=qm h.ring 2 rfl;have aS:(q.length:Int)<=8:=by have:=h.fits;have:=h.pos.2;omega
 have ay:=κ h.qall;clear h
 go_enter func186,ntmps186
 go_wp2
 go_loopw [3,8] (λu ae wr=> ∃(j f:Nat) (cs:List (List Value)),j<=q.length/\ae= ι j/\(∃an am ai,u= δ an am ai)/\wr.ownsRow w.heap.size 56 2 u j (q.take j).flatten/\qN 2 332 56 wr R A room f (q.drop j) J M H I cs/\jt (RgB R A) w wr) (λ_ ae _=>q.length-(intOf ae).toNat)
 case atStart=>exact⟨0,first,css,τ,rfl,⟨_,_,_,rfl⟩,World.ownsRow_nil w _ _ _,aq.o,jt.refl _ _⟩
 case round=>
  obtain⟨j,f,cs,aQ,rfl,⟨an,am,ai,rfl⟩,d,al,ak⟩:=hrel;have af:=κ d;have G:=κ al;have Y:=κ ak;clear d al ak;by_cases hlt:j<q.length
  ·have ab:q.drop j=q[j]::q.drop (j+1):=F2 hlt;have ad:q.take (j+1)=q.take j++[q[j]]:=by rw[A8,ϖ hlt];rfl
   have U:=ay.o q[j] (ϛ hlt);have aR:(j:Int)<(q.length:Int):=by omega
   obtain⟨c,aA⟩: ∃c,Hid (c=q[j]):=⟨_,κ rfl⟩;rw[<-aA.o] at ab ad U;have av:=κ (ab▸G.o);have aw:=κ ad;have aP:c.toArray.size=2:=by simpa using U.1
   clear ab ad G;obtain⟨a0,O,rfl⟩:=Af c U.1
   go_wp2_with (first | (go_at_call 232;(go_call DJ wr R A room f [a0,O] (q.drop (j+1)) J M H I cs av.o as e w5 ⟨rfl,aj,a5⟩;have ar:=κ aj;have ao:=κ a5;have N:=κ (YC af.o a5 (λb aa e=>by rcases e with e | e<;>omega));have az:Hid (w.heap.size<=w5.heap.size):=κ (Ϙ Y.o.size a5.size);clear aj a5)) | (at_builtin;refine wpList_append_own_at _ rfl (.tmp 10) (.tmp 13) 53 rfl w.heap.size 56 aG (Γs) 2 32 underlying53 aH aI aJ aK rfl ζ _ j (q.take j).flatten rfl (YC N.o (jt.of_more W4) (λb _ e=>e)) ⟨w5.heap.size,0,ϋ⟩ 1 1 [a0,O] rfl rfl (λi u aD=>by have:=xy (cs:=[a0,O]) (t:=56) (qj w5 (.cells #[a0,O] 56)) i u aD;rw[Addr.add_mid];exact this) U.2 (by unfold maxLen;omega) τ (by have:=az.o;simp;omega) ?_;intro aW w6 d ac aB aE;have ax:=κ d;have ap:Hid (jt (RgB R A) w w6):=κ (((Y.o.trans ao.o).alc _).grown ac (λb aa=>um N.o aa));have au:Hid (qN 2 332 56 w6 R A room ((f+1)%room) (q.drop (j+1)) J M H I (cs.set f Γs)):=κ ((ar.o.more W4).away (jt.of_grown ac) (λe=>by have:=um N.o e;omega) (λe=>by have:=um N.o e;omega));obtain⟨aT,aL,rfl⟩:=VI d;clear d ac aB aE))
   go_roundw
   case rel=>exact⟨j+1,(f+1)%room,_,τ,by go_num,⟨_,_,_,rfl⟩,by rw[aw.o,K6];simpa using ax.o,au.o,ap.o⟩
   case measure=>simp[intOf];omega
  ·obtain rfl:j=q.length:=by omega
   have aV:wr.cell? ⟨R,7,ϋ⟩=ϊ (ι I):=qm G.o.ring 7 rfl;have aM:wr.frozen? ⟨R,7,ϋ⟩=ύ:=yw G.o.ring 7;go_wp2;go_ret;have aF:q.drop q.length=[]:=by simp
   have aC:q.take q.length=q:=by simp
   have ah:=G.o;have ag:=af.o;rw[aF] at ah;rw[aC] at ag;exact⟨_,rfl,YC ag ((jt.refl (λb=>b=R) _).set rfl _) (λb aa e=>by omega),⟨_,_,_,ah.drained _⟩,Y.o.set (ϒ rfl) _⟩
def Fk (i:Int) (c:List Value) (d:c.length=1) (w:World):Calls prog 187 #[θ (ι i::c).toArray] w λe w'=>e= .returned (ι i)/\ql w w':=by
 obtain⟨a0,G,h⟩:=Af (ι i::c) (by simp[d]);obtain⟨rfl,rfl⟩:a0= ι i/\c=[G]:=by
  injection h with h1 h2
  exact⟨h1.symm,h2⟩
 clear h d
 go_enter func187,ntmps187
 go_wp2;go_ret;exact⟨rfl,ρ⟩
section
open _root_.Go.Proofs.Tryz renaming func185->Ξa,ntmps185->Ξb,underlying56->Ξf
open _root_.Go.Proofs.YtlmllmonabafjaaGreatDoor renaming Fk->Ξc,Ν2->Ξd,Ν56->Ξe,Γs->Ξg
def Nk (w:World) (v:Value) (q:List (List Value)) (base:Nat) (row:w.ownsRow base 56 2 v q.length q.flatten) (Y: ∀c∈q,∃i r,c= ι i::r/\r.length=1) (ah: ∀c∈q,∀u∈c,u.oneCell'=ό) (aM:q.length<=8):
  Calls prog 185 #[v,.func (.func 187) #[] #[]] w λe w'=>(∃v',e= .returned v'/\w'.ownsRow w.heap.size 3 1 v' (q.map idN).length ((q.map idN).map (Value.int .i64)))/\ql w w':=Ψ6
end
def LO (w:World):(zeroValue 255).run prog w= .ok (Γb) w:=by kernel_rfl
def zsC:(Builtin.zeroCells (Γb:Value).cells 1).toList=Γb:=by kernel_rfl
def zokC:(Γb:List Value).length=14/\ ∀u∈(Γb:List Value),u.oneCell'=ό:=⟨rfl,by simp[Value.oneCell']⟩
section
open _root_.Go.Proofs.Tryz renaming func239->Ξb,ntmps239->Ξc,underlying255->Ξg,underlying328->Ξi,results239->Ξm
open _root_.Go.Proofs.YtlmllmonabafjaaGreatDoor renaming Ν14->Ξa,Γb->Ξd,Ν255->Ξe,Ν330->Ξf,Ν328->Ξh,LO->Ξj,zsC->Ξk,zokC->Ξl
def F6 (w:World) (R A room first:Nat) (c:List Value) (T:List (List Value)) (ad ae ab ac:Int) (css:List (List Value)) (h:qN 14 330 255 w R A room first (c::T) ad ae ab ac css):
  Calls prog 239 #[γ R] w λe w'=>e= .returned (θ c.toArray)/\qN 14 330 255 w' R A room ((first+1)%room) T ad ae ab ac (css.set first Γb)/\jt (RgB R A) w w':=Ψ2
end
def Nj {R A:Nat} {H I d G:Int} (h:qN 14 330 255 w R A room first q H I d G css):
  Calls prog 114 #[γ R] w λe w'=>e= .returned (ι q.length)/\w'=w:=by
 have J:w.cell? ⟨R,2,ϋ⟩=ϊ (ι q.length):=qm h.ring 2 rfl;clear h
 go_enter func114,ntmps114
 go_wp2;go_ret;exact⟨rfl,rfl⟩
section
open _root_.Go.Proofs.Tryz renaming func120->Ξa,ntmps120->Ξb
def Hf {R A:Nat} {H I d G:Int} (h:qN 14 330 255 w R A room first q H I d G css):
  Calls prog 120 #[γ R] w λe w'=>e= .returned (μ (decide (q.length=room)))/\ ∃k,w'=w.drewN k:=Ψ3
end
def mkC (n:Nat) (M:1<=n) (N:n<=8) (w:World):
  (Instr.makeSlice 328 (ι (n:Int)) (ι (n:Int))).run prog w= .ok (δ (ϊ ⟨w.heap.size,0,ϋ⟩) n n) (w.alloc (.cells (List.replicate n (Γb:List Value)).flatten.toArray 255)):=by
 obtain⟨J,hi,G,H,I⟩:=info_parts (P:=prog) (e:=255) (z:= Γb) (size:=14) (bytes:=128) ξ;have d:=run_make (P:=prog) w 328 255 J (Γb) underlying328 hi G .i64 .i64 n n τ τ (by rw[I];omega) τ;rw[d];simp only[ο,H];rw[Yq _ 14 n rfl ζ];rfl
def Pq (m:Int) (n:Nat) (I:m=n) (d:1<=n) (G:n<=8) (w:World):
  Calls prog 147 #[ι m] w λe w'=>e= .returned (.tuple #[γ (w.heap.size+1),ι 0])/\qN 14 330 255 w' (w.heap.size+1) w.heap.size n 0 [] 0 0 0 0 (List.replicate n (Γb:List Value))/\ql w w':=by
 subst I;have J:1<=(n:Int):=by omega
 go_enter func147,ntmps147
 have M:=mkC n d G;go_wp2;refine bodyPost_ret (v:= .tuple #[γ (w.heap.size+1),ι 0]) (by simp[results,results147,go_sem]) rfl ?_;refine⟨rfl, ?_,ρ⟩;exact⟨qC η,qs (qB (qj _ _) rfl) _,τ,η,λc H=>by rw[F8 H];exact zokC,⟨d,G⟩,τ,η,λi hi=>by simp at hi⟩
section
open _root_.Go.Proofs.Tryz renaming func200->Ξb,ntmps200->Ξc,results200->Ξg,underlying255->Ξh
open _root_.Go.Proofs.YtlmllmonabafjaaGreatDoor renaming Ν14->Ξa,F6->Ξd,Γb->Ξe,Ν255->Ξf
def Nc (w:World) (R A room first:Nat) (c:List Value) (T:List (List Value)) (I N G H:Int) (css:List (List Value)) (h:qN 14 330 255 w R A room first (c::T) I N G H css):
  Calls prog 200 #[γ R] w λe w'=>e= .returned (.tuple #[θ c.toArray,ό])/\(∃co',qN 14 330 255 w' R A room ((first+1)%room) T I co' G H (css.set first Γb))/\jt (RgB R A) w w':=Ψ4
end
def UH (w:World) (R A room first:Nat) (q:List (List Value)) (O ad ab ac:Int) (css:List (List Value)) (h:qN 14 330 255 w R A room first q O ad ab ac css) (aF:q.length<room) (x:List Value) (M:x.length=14/\ ∀u∈x,u.oneCell'=ό):
  Calls prog 199 #[γ R,θ x.toArray] w λe w'=>e= .returned (.tuple #[Γb,μ ύ,ι 0])/\(∃ci',qN 14 330 255 w' R A room first (q++[x]) ci' ad ab ac (css.set ((first+q.length)%room) x))/\jt (RgB R A) w w':=by
 have an:=κ h;have aL:R<w.heap.size:=qn h.ring;have aK:A<w.heap.size:=qn h.row;have aT:(((w.alloc (.cells x.toArray 255)).alloc (.cells Γb 255)).alloc (.cells Γb 255)).cell? ⟨R,3,ϋ⟩=ϊ (μ ύ):=qm (qs (qs (qs h.ring _) _) _) 3 rfl;have aE:decide (q.length=room)=ύ:=by simp;omega
 clear h
 go_enter func199,ntmps199
 go_wp2_with (first | (go_at_call 120;((with_reducible refine(Hf (an.o.more (((ql.refl w).al _).al _ |>.al _))).mono ?_);rintro e aa ⟨rfl,aR,U⟩;rw[aE];have af:Hid (ql w aa):=κ (by rw[U];exact(((ql.refl w).al _).al _ |>.al _).dr _);have aq:Hid (aa.heap[w.heap.size]? =ϊ (.cells x.toArray 255 (0,0))):=κ (by rw[U];exact qr (qs (qs (qj _ _) _) _) _);have ah:Hid (aa.heap[w.heap.size+1]? =ϊ (.cells Γb 255 (0,0))):=κ (by rw[U];exact qr (qs (qC η) _) _);have ak:Hid (aa.heap[w.heap.size+2]? =ϊ (.cells Γb 255 (0,0))):=κ (by rw[U];exact qr (qC η) _);clear U)))
 obtain⟨G,H⟩: ∃G,G=aa:=⟨_,rfl⟩;have d:Hid (qN 14 330 255 G R A room first q O ad ab ac css):=κ (by rw[H];exact an.o.more af.o);have ag:Hid (jt (RgB R A) w G):=κ (by rw[H];exact jt.of_more af.o);have ar:Hid (G.heap[w.heap.size]? =ϊ (.cells x.toArray 255 (0,0))):=κ (by rw[H];exact aq.o);have ai:Hid (G.heap[w.heap.size+1]? =ϊ (.cells Γb 255 (0,0))):=κ (by rw[H];exact ah.o);have am:Hid (G.heap[w.heap.size+2]? =ϊ (.cells Γb 255 (0,0))):=κ (by rw[H];exact ak.o);have aG:q.length<room:=aF;rw[<-H];clear H af aq ah ak;obtain⟨f,ap⟩: ∃f,Hid (f=first):=⟨_,κ rfl⟩;obtain⟨cs,ao⟩: ∃cs,Hid (cs=css):=⟨_,κ rfl⟩;rw[<-ap.o,<-ao.o] at d;have ay: ∀x:qt G,x.w'.cell? ⟨R,0,ϋ⟩=ϊ (δ (ϊ ⟨A,0,ϋ⟩) room room):=λx=>x.cell (qn d.o.ring) (qm d.o.ring 0 rfl)
 have az: ∀x:qt G,x.w'.cell? ⟨R,1,ϋ⟩=ϊ (ι f):=λx=>x.cell (qn d.o.ring) (qm d.o.ring 1 rfl)
 have aA: ∀x:qt G,x.w'.cell? ⟨R,2,ϋ⟩=ϊ (ι q.length):=λx=>x.cell (qn d.o.ring) (qm d.o.ring 2 rfl)
 have aO:((f:Int)+(q.length:Int))%(room:Int)=(((f+q.length)%room:Nat):Int):=by rw[I0];rfl
 have aD:(f+q.length)%room<room:=I6 _ τ;have hi:(((f+q.length)%room:Nat):Int)<(room:Int):=by omega
 have aP:=d.o.pos;have aM:=d.o.fst;have aN:(f:Int)<=8:=by omega
 have aQ:(q.length:Int)<=8:=by omega
 generalize aC:(f+q.length)%room=I at *;refine Qn G 21 22 [21] ?_
 refine Ny ?_
 refine jh rfl rfl (qk ρ) 255 (.tmp 3) rfl w.heap.size 0 rfl x _ (λw' aH=>by obtain⟨y,rfl⟩:=aH;exact xy (qq y.h ar.o)) underlying255 rfl (by rw[M.1];kernel_rfl) ?_;intro K Y;go_simp;refine Y _ ?_;clear Y K
 refine Qq1 ?_
 refine zY rfl rfl ζ ?_;intro K Y;refine zF 255 (.tmp 48) (.tmp 47) rfl A (I* 14) 255 cs.flatten.toArray x rfl rfl (qr d.o.row 1) (by rw[d.o.size,M.1];have:=A7 14 (show I+1<=room by omega);omega) (by rw[M.1];kernel_rfl) M.2 ?_;refine⟨trivial, ?_⟩;go_simp;refine Y _ _ ?_;clear Y K ay az aA;refine qA ?_;obtain⟨W6,J⟩:=ν ((G.drewN 1).setRow A (xQ cs.flatten (I* 14) x).toArray);have aw:Hid (jt (RgB R A) w W6):=κ (by rw[<-J];exact(ag.o.drewN 1).row (ϔ rfl) _);have N:Hid (W6.heap[R]? =ϊ (.cells (jV A room f q.length O ad ab ac) 330 (0,0))):=κ (by rw[<-J];exact qS (qr d.o.ring 1) _ d.o.ne);have aB:Hid (W6.heap[A]? =ϊ (.cells (cs.set I x).flatten.toArray 255 (0,0))):=κ (by rw[<-J,<-JO cs I _ d.o.cl M.1 (by rw[d.o.len];exact aD)];exact jY (qr d.o.row 1) _);have aj:Hid (W6.heap[w.heap.size+1]? =ϊ (.cells Γb 255 (0,0))):=κ (by rw[<-J];exact qS (qr ai.o 1) _ τ);have ax:Hid (W6.heap[w.heap.size+2]? =ϊ (.cells Γb 255 (0,0))):=κ (by rw[<-J];exact qS (qr am.o 1) _ τ);rw[J];clear J ag ar ai am;have au:w.heap.size+2≠R:=by omega
 have ae:w.heap.size+1≠R:=by omega
 have aS:W6.cell? ⟨R,2,ϋ⟩=ϊ (ι q.length):=qm N.o 2 rfl;have aI:W6.frozen? ⟨R,2,ϋ⟩=ύ:=yw N.o 2;have aU:W6.cell? ⟨R,4,ϋ⟩=ϊ (ι O):=qm N.o 4 rfl;have aJ:W6.frozen? ⟨R,4,ϋ⟩=ύ:=yw N.o 4
 go_wp2_with (first | (refine yL (.load 255 (.tmp 7)) rfl ?_;refine vO rfl 255 (.tmp 7) rfl (w.heap.size+2) 255 Γb _ (qo (qo ax.o ⟨R,2,ϋ⟩ _ au) ⟨R,4,ϋ⟩ _ au) rfl underlying255 rfl ξ ?_) | (refine yL (.store 255 (.tmp 4) (.tmp 65)) rfl ?_;refine xW rfl 255 (.tmp 4) (.tmp 65) rfl (w.heap.size+1) 255 _ Γb (qo (qo aj.o ⟨R,2,ϋ⟩ _ ae) ⟨R,4,ϋ⟩ _ ae) rfl rfl ξ rfl (all_oneCell_toArray zokC.2) ?_))
 have av:R≠A:=d.o.ne;refine bodyPost_ret (v:= .tuple #[Γb,μ ύ,ι 0]) (KW results199 _ _ (w.heap.size+1) 255 Γb _ _ _ rfl rfl rfl (jY (qo (qo aj.o ⟨R,2,ϋ⟩ _ ae) ⟨R,4,ϋ⟩ _ ae) _) underlying255 rfl ξ) rfl ?_;subst aC;obtain rfl:=ap.o;obtain rfl:=ao.o;refine⟨rfl,⟨wrap64 (O+1),d.o.put aG M ?_ ?_⟩,((aw.o.set (ϒ rfl) _).set (ϒ rfl) _).rowNew τ _⟩
 ·exact qS (qB (qp (qp N.o 2 _) 4 _) rfl) _ τ
 ·exact qS (qo (qo aB.o _ _ (C0 av)) _ _ (C0 av)) _ τ
def Ah (c:List Value) (h:c.length=14): ∃a0 a1 a2 a3 a4 a5 a6 a7 a8 a9 a10 a11 a12 a13,c=[a0,a1,a2,a3,a4,a5,a6,a7,a8,a9,a10,a11,a12,a13]:=by
 match c,h with
 | [a0,a1,a2,a3,a4,a5,a6,a7,a8,a9,a10,a11,a12,a13],_=>exact⟨a0,a1,a2,a3,a4,a5,a6,a7,a8,a9,a10,a11,a12,a13,rfl⟩
def YD {e n m:Nat} (h:w.ownsRow base e n v m xs) (a:jt S w w') (H: ∀b,base<=b-> ¬S b):w'.ownsRow base e n v m xs:=by
 obtain⟨d,G⟩:=h;refine⟨d, ?_⟩;rcases G with h | ⟨b,cap,cur,e1,hb,hg,rest⟩
 ·exact ϒ h
 ·exact ϔ ⟨b,cap,cur,e1,hb,a.blk hg (H b hb),rest⟩
def DP {e n:Nat} (h:w.ownsRow base e size v n xs) (d:v.ownBlock=ϊ b):base<=b:=by
 rcases h.2 with ⟨rfl,_⟩ | ⟨g,cap,cur,rfl,G,_⟩
 ·cases d
 ·obtain rfl:g=b:=by injection d
  exact G
def BU {e n:Nat} (h:w.ownsRow base e size v n xs): ∃oa cap,v= δ oa n cap:=by
 rcases h.2 with ⟨rfl,d⟩ | ⟨g,cap,cur,rfl,_⟩
 ·exact⟨ϋ,0,by rw[d]⟩
 ·exact⟨_,cap,rfl⟩
def IO (w:World) (R A room first:Nat) (q:List (List Value)) (J M H I:Int) (css:List (List Value)) (h:qN 14 330 255 w R A room first q J M H I css):
  Calls prog 183 #[γ R] w λe w'=> ∃v,e= .returned v/\w'.ownsRow w.heap.size 255 14 v q.length q.flatten/\(∃first' cg' css',qN 14 330 255 w' R A room first' [] J M H cg' css')/\jt (RgB R A) w w':=by
 obtain⟨aO,aP,aQ,aR,aS⟩:=info_parts (P:=prog) (e:=255) (z:= Γb) (size:=14) (bytes:=128) ξ;have aA:=κ h;have aW:R<w.heap.size:=qn h.ring;have aV:A<w.heap.size:=qn h.row;have bc:w.cell? ⟨R,2,ϋ⟩=ϊ (ι q.length):=qm h.ring 2 rfl;have ba:(q.length:Int)<=8:=by have:=h.fits;have:=h.pos.2;omega
 have aG:=κ h.qall;clear h
 go_enter func183,ntmps183
 go_wp2
 go_loopw [3,8] (λu am wr=> ∃(j f:Nat) (cs:List (List Value)),j<=q.length/\am= ι j/\(∃ax aw aq,u= δ ax aw aq)/\wr.ownsRow w.heap.size 255 14 u j (q.take j).flatten/\qN 14 330 255 wr R A room f (q.drop j) J M H I cs/\jt (RgB R A) w wr) (λ_ am _=>q.length-(intOf am).toNat)
 case atStart=>exact⟨0,first,css,τ,rfl,⟨_,_,_,rfl⟩,World.ownsRow_nil w _ _ _,aA.o,jt.refl _ _⟩
 case round=>
  obtain⟨j,f,cs,aY,rfl,⟨ax,aw,aq,rfl⟩,d,av,au⟩:=hrel;have an:=κ d;have G:=κ av;have ah:=κ au;clear d av au;by_cases hlt:j<q.length
  ·have aj:q.drop j=q[j]::q.drop (j+1):=F2 hlt;have al:q.take (j+1)=q.take j++[q[j]]:=by rw[A8,ϖ hlt];rfl
   have ag:=aG.o q[j] (ϛ hlt);have aZ:(j:Int)<(q.length:Int):=by omega
   obtain⟨c,aI⟩: ∃c,Hid (c=q[j]):=⟨_,κ rfl⟩;rw[<-aI.o] at aj al ag;have aD:=κ (aj▸G.o);have aE:=κ al;have aX:c.toArray.size=14:=by simpa using ag.1
   clear aj al G;obtain⟨a0,O,ac,a3,a4,a5,ad,ae,af,a9,U,Y,aa,ab,rfl⟩:=Ah c ag.1
   go_wp2_with (first | (go_at_call 239;(go_call F6 wr R A room f [a0,O,ac,a3,a4,a5,ad,ae,af,a9,U,Y,aa,ab] (q.drop (j+1)) J M H I cs aD.o as e w5 ⟨rfl,ar,a5⟩;have aB:=κ ar;have ay:=κ a5;have N:=κ (YD an.o a5 (λb ai e=>by rcases e with e | e<;>omega));have aH:Hid (w.heap.size<=w5.heap.size):=κ (Ϙ ah.o.size a5.size);clear ar a5)) | (at_builtin;refine wpList_append_own_at _ rfl (.tmp 10) (.tmp 13) 328 rfl w.heap.size 255 aO (Γb) 14 128 underlying328 aP aQ aR aS rfl ζ _ j (q.take j).flatten rfl (YD N.o (jt.of_more W4) (λb _ e=>e)) ⟨w5.heap.size,0,ϋ⟩ 1 1 [a0,O,ac,a3,a4,a5,ad,ae,af,a9,U,Y,aa,ab] rfl rfl (λi u aL=>by have:=xy (cs:=[a0,O,ac,a3,a4,a5,ad,ae,af,a9,U,Y,aa,ab]) (t:=255) (qj w5 (.cells #[a0,O,ac,a3,a4,a5,ad,ae,af,a9,U,Y,aa,ab] 255)) i u aL;rw[Addr.add_mid];exact this) ag.2 (by unfold maxLen;omega) τ (by have:=aH.o;simp;omega) ?_;intro be w6 d ak aJ aM;have aF:=κ d;have az:Hid (jt (RgB R A) w w6):=κ (((ah.o.trans ay.o).alc _).grown ak (λb ai=>DP N.o ai));have aC:Hid (qN 14 330 255 w6 R A room ((f+1)%room) (q.drop (j+1)) J M H I (cs.set f Γb)):=κ ((aB.o.more W4).away (jt.of_grown ak) (λe=>by have:=DP N.o e;omega) (λe=>by have:=DP N.o e;omega));obtain⟨bb,aT,rfl⟩:=BU d;clear d ak aJ aM))
   go_roundw
   case rel=>exact⟨j+1,(f+1)%room,_,τ,by go_num,⟨_,_,_,rfl⟩,by rw[aE.o,K6];simpa using aF.o,aC.o,az.o⟩
   case measure=>simp[intOf];omega
  ·obtain rfl:j=q.length:=by omega
   have bd:wr.cell? ⟨R,7,ϋ⟩=ϊ (ι I):=qm G.o.ring 7 rfl;have aU:wr.frozen? ⟨R,7,ϋ⟩=ύ:=yw G.o.ring 7;go_wp2;go_ret;have aN:q.drop q.length=[]:=by simp
   have aK:q.take q.length=q:=by simp
   have ap:=G.o;have ao:=an.o;rw[aN] at ap;rw[aK] at ao;exact⟨_,rfl,YD ao ((jt.refl (λb=>b=R) _).set rfl _) (λb ai e=>by omega),⟨_,_,_,ap.drained _⟩,ah.o.set (ϒ rfl) _⟩
def Fm (i:Int) (c:List Value) (d:c.length=13) (w:World):Calls prog 184 #[θ (ι i::c).toArray] w λe w'=>e= .returned (ι i)/\ql w w':=by
 obtain⟨a0,G,N,a3,a4,a5,O,U,Y,a9,H,I,J,M,h⟩:=Ah (ι i::c) (by simp[d]);obtain⟨rfl,rfl⟩:a0= ι i/\c=[G,N,a3,a4,a5,O,U,Y,a9,H,I,J,M]:=by
  injection h with h1 h2
  exact⟨h1.symm,h2⟩
 clear h d
 go_enter func184,ntmps184
 go_wp2;go_ret;exact⟨rfl,ρ⟩
section
open _root_.Go.Proofs.Tryz renaming func182->Ξa,ntmps182->Ξb,underlying255->Ξf
open _root_.Go.Proofs.YtlmllmonabafjaaGreatDoor renaming Fm->Ξc,Ν14->Ξd,Ν255->Ξe,Γb->Ξg
def Nm (w:World) (v:Value) (q:List (List Value)) (base:Nat) (row:w.ownsRow base 255 14 v q.length q.flatten) (Y: ∀c∈q,∃i r,c= ι i::r/\r.length=13) (ah: ∀c∈q,∀u∈c,u.oneCell'=ό) (aM:q.length<=8):
  Calls prog 182 #[v,.func (.func 184) #[] #[]] w λe w'=>(∃v',e= .returned v'/\w'.ownsRow w.heap.size 3 1 v' (q.map idN).length ((q.map idN).map (Value.int .i64)))/\ql w w':=Ψ6
end
structure LnB where
 L:Nat
 R1:Nat
 A1:Nat
 R2:Nat
 A2:Nat
 R3:Nat
 A3:Nat
variable {k:LnB}
def LnB.muts (k:LnB) (b:Nat):Prop:=b=k.L∨RgB k.R1 k.A1 b∨RgB k.R2 k.A2 b∨RgB k.R3 k.A3 b
def jQ (k:LnB) (vo:Value) (s:LnS):Array Value:=
 #[vo,.pointer (ϊ ⟨k.R1,0,ϋ⟩),.pointer (ϊ ⟨k.R2,0,ϋ⟩),.pointer (ϊ ⟨k.R3,0,ϋ⟩),.bool s.wanted,.int .i64 s.cur,.int .i64 s.tgt,
  .int .u32 s.rw.src,.int .u16 s.rw.sq,.int .u32 s.rw.st,.bool s.rw.any,.int .u32 s.rw.last,.int .u32 s.rw.shift,.int .i64 s.most,.int .i64 s.row,.bool s.gone]
def lnD (N:Nat->Prop) (k:LnB) (b:Nat):Prop:=N b->k.muts b
def lnE (N:Nat->Prop) (k:LnB) (vo:Value) (b:Nat):Prop:=lnD N k b∨vo.ownBlock=ϊ b
def lnM (k:LnB) (vo:Value) (b:Nat):Prop:=k.muts b∨vo.ownBlock=ϊ b
def xf (N:Nat->Prop) (w w':World) (b:Nat):Prop:=N b∨(w.heap.size<=b/\b<w'.heap.size)
structure KM (s:LnS):Prop where
 most:1<=s.most/\s.most<=10
 row:0<=s.row/\s.row<=s.most
 lt:s.gone=ύ->s.row<s.most
 sq:U16 s.rw.sq
 src:U32 s.rw.src
structure LnX (N:Nat->Prop) (w:World) (k:LnB) (vo:Value) (s:LnS):Prop where
 own: ∀b,N b->b<w.heap.size
 muts: ∀b,k.muts b->N b
 dist:(k.L≠k.R1/\k.L≠k.A1/\k.L≠k.R2/\k.L≠k.A2/\k.L≠k.R3/\k.L≠k.A3)/\(k.R1≠k.A1/\k.R1≠k.R2/\k.R1≠k.A2/\k.R1≠k.R3/\k.R1≠k.A3)/\(k.A1≠k.R2/\k.A1≠k.A2/\k.A1≠k.R3/\k.A1≠k.A3)/\(k.R2≠k.A2/\k.R2≠k.R3/\k.R2≠k.A3)/\(k.A2≠k.R3/\k.A2≠k.A3)/\k.R3≠k.A3
 blk:w.heap[k.L]? =ϊ (.cells (jQ k vo s) 153 (0,0))
 r1:RgR 13 327 253 RIt (lnE N k vo) w k.R1 k.A1 s.room s.A
 r2:RgR 14 330 255 RCh (lnE N k vo) w k.R2 k.A2 s.room s.B
 r3:RgR 2 332 56 ROu (lnE N k vo) w k.R3 k.A3 s.room s.C
 o:je 2 ROu (lnD N k) w 0 56 vo s.W
 ok:KM s
def zw (N:Nat->Prop) (w:World) (L:Nat) (s:LnS):Prop:= ∃k vo,k.L=L/\LnX N w k vo s
section
variable {N:Nat->Prop} {w w':World} {k:LnB} {vo vo':Value} {s s':LnS}
def LnX.vob (h:LnX N w k vo s) (d:vo.ownBlock=ϊ b):N b/\ ¬k.muts b:=by
 have:=h.o.apart b d;unfold lnD at this;exact Classical.not_imp.1 this
def LnX.inN (h:LnX N w k vo s) (d:lnM k vo b):N b:=by
 rcases d with e | e
 ·exact h.muts b e
 ·exact(h.vob e).1
def Mc (d:lnM k vo b):lnE N k vo b:=by
 rcases d with e | e
 ·exact ϒ λ_=>e
 ·exact ϔ e
def kZ (d:k.muts b):lnE N k vo b:=ϒ λ_=>d
def LnX.away (h:LnX N w k vo s) (a:jt S w w') (M: ∀b,S b-> ¬N b):LnX N w' k vo s:=by
 have G: ∀b,k.muts b-> ¬S b:=λb d H=>M b H (h.muts b d)
 have I: ∀b,S b->lnE N k vo b:=λb H=>ϒ λJ=>ϩ J (M b H)
 refine⟨λb d=>ϗ (h.own b d) a.size,h.muts,h.dist,a.blk h.blk (G _ (ϒ rfl)), ?_, ?_, ?_, ?_,h.ok⟩
 ·exact h.r1.step a (G _ (ϔ (ϒ (ϒ rfl)))) (G _ (ϔ (ϒ (ϔ rfl)))) I (λb d=>ϒ d)
 ·exact h.r2.step a (G _ (ϔ (ϔ (ϒ (ϒ rfl))))) (G _ (ϔ (ϔ (ϒ (ϔ rfl))))) I (λb d=>ϒ d)
 ·exact h.r3.step a (G _ (ϔ (ϔ (ϔ (ϒ rfl))))) (G _ (ϔ (ϔ (ϔ (ϔ rfl))))) I (λb d=>ϒ d)
 ·exact h.o.step (a.mono λb H J=>ϩ J (M b H))
def LnX.on (h:LnX N w k vo s) (m:ql w w'):LnX N w' k vo s:=h.away (S:=λ_=>False) (jt.of_more m) (λ_ e=>e.elim)
def zw.away {L:Nat} (h:zw N w L s) (a:jt S w w') (d: ∀b,S b-> ¬N b):zw N w' L s:=by
 obtain⟨k,vo,e,x⟩:=h;exact⟨k,vo,e,x.away a d⟩
def zw.on {L:Nat} (h:zw N w L s) (m:ql w w'):zw N w' L s:=by
 obtain⟨k,vo,e,x⟩:=h;exact⟨k,vo,e,x.on m⟩
def xE (h: ∀b,N b->b<w.heap.size) (H: ∀b,vo'.ownBlock=ϊ b->vo.ownBlock=ϊ b∨w.heap.size<=b) (G:lnE (xf N w w') k vo' b):lnE N k vo b:=by
 rcases G with e | e
 ·exact ϒ λd=>e (ϒ d)
 ·rcases H b e with e1 | e1
  ·exact ϔ e1
  ·exact ϒ λd=>by have:=h b d;omega
def EP (G:lnD (xf N w w') k b):lnD N k b:=λd=>G (ϒ d)
def LnX.held {α:Type} {R:qL α} {c:List Value} {y:α} (h:LnX N w k vo s) (G:jw R (lnE N k vo) w c y) (a:jt (lnM k vo) w w') (H: ∀b,vo'.ownBlock=ϊ b->vo.ownBlock=ϊ b∨w.heap.size<=b):jw R (lnE (xf N w w') k vo') w' c y:=
 (G.step (a.mono λ_=>Mc)).other λ_ d=>ϒ (xE h.own H d)
def LnX.rows (h:LnX N w k vo s) (a:jt k.muts w w'):je 2 ROu (lnD (xf N w w') k) w' 0 56 vo s.W:=by
 have H:=h.o.step (a.mono λb d _=>d);obtain⟨⟨xs,o,r⟩,G⟩:=H;refine⟨⟨xs,o,λi hi=>(r i hi).other λb d=>ϒ (xE h.own (λ_ e=>ϒ e) d)⟩,λb d I=>G b d (EP I)⟩
def LnX.make (h:LnX N w k vo s) (U:w.heap.size<=w'.heap.size)
  (G:w'.heap[k.L]? =ϊ (.cells (jQ k vo' s') 153 (0,0)))
  (J:RgR 13 327 253 RIt (lnE (xf N w w') k vo') w' k.R1 k.A1 s'.room s'.A)
  (M:RgR 14 330 255 RCh (lnE (xf N w w') k vo') w' k.R2 k.A2 s'.room s'.B)
  (O:RgR 2 332 56 ROu (lnE (xf N w w') k vo') w' k.R3 k.A3 s'.room s'.C)
  (I:je 2 ROu (lnD (xf N w w') k) w' 0 56 vo' s'.W) (H:KM s'):LnX (xf N w w') w' k vo' s':=
 ⟨λb d=>by
  rcases d with e | e
  ·exact ϗ (h.own b e) U
  ·exact e.2,λb d=>ϒ (h.muts b d),h.dist,G,J,M,O,I,H⟩
def LnX.grow (h:LnX N w k vo s) (m:ql w w'):LnX (xf N w w') w' k vo s:=by
 have H:=h.on m;have a:jt (λ_=>False) w w':=jt.of_more m;have d: ∀b,lnE (xf N w w') k vo b->lnE N k vo b∨w'.heap.size<=b:=λb G=>ϒ (xE h.own (λ_ e=>ϒ e) G)
 exact h.make m.size H.blk (h.r1.step a (λe=>e) (λe=>e) (λ_ e=>e.elim) d) (h.r2.step a (λe=>e) (λe=>e) (λ_ e=>e.elim) d) (h.r3.step a (λe=>e) (λe=>e) (λ_ e=>e.elim) d) (h.rows (jt.of_more m)) h.ok
end
def Iz {P:Program} {H:Func} {p:Tmp} {d:TypeId} (h:H.results= #[.cell p d]) (tmps:Array Value) (w:World) (g:Nat) (t:TypeId) (cs:Array Value) (G:TypeDesc)
  (M:tmps.getD p undef= γ g) (J:w.heap[g]? =ϊ (.cells cs t (0,0)))
  (O:P.underlying d=ϊ G) (I:(match G with | .struct _ | .array _ _=>ό | _=>ύ)=ό) (hi:(P.info? d).map (·.size)=ϊ cs.size):
  (results H tmps).run P w= .ok (θ cs) w:=by
 have N:tmps[p]?.getD undef= γ g:=by simpa using M
 simp[results,h,N,asAddr,run_loadVar_row w g t d cs (0,0) G J O I hi]
def gF (h:LnX N w k vo s):Calls prog 69 #[γ k.L] w λe w'=>e= .returned (μ s.gone)/\ql w w':=by
 have d:w.cell? ⟨k.L,15,ϋ⟩=ϊ (μ s.gone):=qm h.blk 15 rfl;clear h
 go_enter func69,ntmps69
 go_wp2;go_ret;exact⟨rfl,ρ⟩
def WV (h:LnX N w k vo s) (m:ql w w'):Calls prog 113 #[γ k.R1] w' λe w''=>e= .returned (ι s.A.length)/\w''=w':=by
 obtain⟨f,q,J,M,H,I,css,d,G⟩:=(h.on m).r1;rw[<-G.len];exact Ni d
def WU (h:LnX N w k vo s) (m:ql w w'):Calls prog 114 #[γ k.R2] w' λe w''=>e= .returned (ι s.B.length)/\w''=w':=by
 obtain⟨f,q,J,M,H,I,css,d,G⟩:=(h.on m).r2;rw[<-G.len];exact Nj d
def WT (h:LnX N w k vo s) (m:ql w w'):Calls prog 115 #[γ k.R3] w' λe w''=>e= .returned (ι s.C.length)/\w''=w':=by
 obtain⟨f,q,J,M,H,I,css,d,G⟩:=(h.on m).r3;rw[<-G.len];exact Nh d
def Cj (h:LnX N w k vo s) (m:ql w w'):Calls prog 120 #[γ k.R2] w' λe w''=>e= .returned (μ (decide (s.B.length=s.room)))/\ql w' w'':=by
 obtain⟨f,q,J,M,H,I,css,d,G⟩:=(h.on m).r2;rw[<-G.len];refine(Hf d).mono ?_;rintro e w'' ⟨rfl,n,rfl⟩;exact⟨rfl,(ql.refl _).dr n⟩
def YA (h:LnX N w k vo s):Calls prog 74 #[γ k.L,ι 1] w λe w'=>e= .returned (μ (vC s 1))/\ql w w':=by
 have c1:w.cell? ⟨k.L,1,ϋ⟩=ϊ (π (ϊ ⟨k.R1,0,ϋ⟩)):=qm h.blk 1 rfl;have c2:w.cell? ⟨k.L,2,ϋ⟩=ϊ (π (ϊ ⟨k.R2,0,ϋ⟩)):=qm h.blk 2 rfl;have O:vC s 1=(decide (0<s.A.length)&&decide (¬s.B.length=s.room)):=rfl;have J:=κ (WV h (ql.refl w));have d:=κ (Cj h (ql.refl w));rw[O];clear h O;obtain⟨b,G⟩:=ν (decide (s.B.length=s.room));rw[G] at d;have M:decide (¬s.B.length=s.room)= !b:=by rw[<-G];simp
 rw[M];clear G M;by_cases hl:0<s.A.length
 ·have U:(0:Int)<(s.A.length:Int):=by omega
  have H:decide (0<s.A.length)=ό:=by simp;omega
  rw[H]
  go_enter func74,ntmps74
  go_wp2_with (first | (go_at_call 113;(go_call J.o as e w1 ⟨rfl,rfl⟩)) | (go_at_call 120;(go_call d.o as e w2 ⟨rfl,I⟩)))
  all_goals (go_ret;first | exact⟨η,I⟩ | exact⟨η,ql.refl _⟩)
 ·have U: ¬(0:Int)<(s.A.length:Int):=by omega
  have H:decide (0<s.A.length)=ύ:=ϫ hl;rw[H]
  go_enter func74,ntmps74
  go_wp2_with (first | (go_at_call 113;(go_call J.o as e w1 ⟨rfl,rfl⟩)) | (go_at_call 120;(go_call d.o as e w2 ⟨rfl,I⟩)))
  all_goals (go_ret;first | exact⟨η,I⟩ | exact⟨η,ql.refl _⟩)
def Yz (h:LnX N w k vo s):Calls prog 74 #[γ k.L,ι 2] w λe w'=>e= .returned (μ (vC s 2))/\ql w w':=by
 have c2:w.cell? ⟨k.L,2,ϋ⟩=ϊ (π (ϊ ⟨k.R2,0,ϋ⟩)):=qm h.blk 2 rfl;have d:vC s 2=decide (0<s.B.length):=rfl;have G:=κ (WU h (ql.refl w));rw[d];clear h d
 go_enter func74,ntmps74
 go_wp2_with (go_at_call 114;(go_call G.o as e w1 ⟨rfl,rfl⟩))
 go_ret;exact⟨η,ql.refl _⟩
def Jy (h:LnX N w k vo s):Calls prog 74 #[γ k.L,ι 3] w λe w'=>e= .returned (μ (vC s 3))/\ql w w':=by
 have c3:w.cell? ⟨k.L,3,ϋ⟩=ϊ (π (ϊ ⟨k.R3,0,ϋ⟩)):=qm h.blk 3 rfl;have d:vC s 3=decide (0<s.C.length):=rfl;have G:=κ (WT h (ql.refl w));rw[d];clear h d
 go_enter func74,ntmps74
 go_wp2_with (go_at_call 115;(go_call G.o as e w1 ⟨rfl,rfl⟩))
 go_ret;exact⟨η,ql.refl _⟩
def ER (h:LnX N w k vo s):Calls prog 68 #[γ k.L] w λe w'=>e= .returned (θ #[ι s.A.length,ι s.B.length,ι s.C.length])/\ql w w':=by
 have H:=κ h;clear h
 go_enter func68,ntmps68
 go_wp2;obtain⟨W1,J⟩:=ν (w.alloc (.cells #[ι 0,ι 0,ι 0] 104));have G:Hid (ql w W1):=κ (by rw[<-J];exact ql.alloc _ _);have M:Hid (W1.heap[w.heap.size]? =ϊ (.cells #[ι 0,ι 0,ι 0] 104 (0,0))):=κ (by rw[<-J];exact qj w _);rw[J];clear J;have I:=λ(x:qt W1)=>qq (G.o.trans x.h) H.o.blk
 have c1:=λx=>β1 (I x);have c2:=λx=>β2 (I x);have c3:=λx=>β3 (I x);clear I
 refine zC W1 16 [(0,ύ),(1,ύ),(2,ύ),(3,ύ),(5,ύ),(6,ύ),(7,ύ),(8,ύ),(10,ύ),(11,ύ),(12,ύ),(13,ύ),(4,ό),(9,ό),(14,ό),(15,ύ),(16,ό)] ξ ξ ?_
 refine Qs ?_
 (refine Ql ?_;intro K d)
 go_call WV H.o (G.o.dr 1) as e w2 ⟨rfl,rfl⟩;refine⟨_,rfl,qk ρ,d _ _ ?_⟩;clear d K
 (refine Ql ?_;intro K d)
 go_call WU H.o (G.o.dr 1) as e w2 ⟨rfl,rfl⟩;refine⟨_,rfl,qk ρ,d _ _ ?_⟩;clear d K
 (refine Ql ?_;intro K d)
 go_call WT H.o (G.o.dr 1) as e w2 ⟨rfl,rfl⟩;refine⟨_,rfl,qk ρ,d _ _ ?_⟩;clear d K
 refine Qq1 ?_
 refine zY rfl rfl ζ ?_;intro K d;refine jr 104 (.tmp 2) (.tmp 18) rfl w.heap.size 104 _ #[ι s.A.length,ι s.B.length,ι s.C.length] rfl rfl (qr M.o 1) ξ rfl (all_oneCell_toArray W5) ?_;refine⟨trivial, ?_⟩;go_simp;refine d _ _ ?_;clear d K;refine qA ?_;go_wp2;refine bodyPost_ret (v:= θ #[ι s.A.length,ι s.B.length,ι s.C.length]) (Iz results68 _ _ w.heap.size 104 #[ι s.A.length,ι s.B.length,ι s.C.length] _ rfl (jY (qr M.o 1) _) underlying104 rfl ξ) rfl ?_;exact⟨rfl,(EC _ _ _).to_more (G.o.dr 1) (λk e=>by rw[e];exact ϕ _)⟩
def AJ (h:LnX N w k vo s):Calls prog 67 #[γ k.L] w λe w'=>e= .returned (.tuple #[θ #[ι s.cur,ι s.tgt],s.wanted])/\ql w w':=by
 have M:=κ h;have aa:k.L<w.heap.size:=qn h.blk;clear h
 go_enter func67,ntmps67
 go_wp2;obtain⟨W1,H⟩:=ν (w.alloc (.cells #[ι 0,ι 0] 103));have I:Hid (ql w W1):=κ (by rw[<-H];exact ql.alloc _ _);have J:Hid (W1.heap[w.heap.size]? =ϊ (.cells #[ι 0,ι 0] 103 (0,0))):=κ (by rw[<-H];exact qj w _);rw[H];clear H;have c4:=λ(x:qz (λb=>b=w.heap.size) W1)=>β4 (x.h.blk (qq I.o M.o.blk) τ)
 have U: ∀x:qz (λb=>b=w.heap.size) W1,x.w'.rangeAt k.L 5 [ι s.cur,ι s.tgt]:=λx j v G=>by
  have O:=x.h.blk (qq I.o M.o.blk) (show ¬k.L=w.heap.size by omega)
  match j,G with
  | 0,G=>exact qm O 5 G
  | 1,G=>exact qm O 6 G
 refine QN (λb=>b=w.heap.size) W1 10 10 [8] ?_
 refine Qs3 ?_
 refine jh rfl rfl (qi σ) 103 (.tmp 6) rfl k.L 5 rfl [ι s.cur,ι s.tgt] _ (λw' Y=>by obtain⟨x,rfl⟩:=Y;exact U x) underlying103 rfl ξ ?_;intro K d;go_simp;refine d _ ?_;clear d K
 refine Qs4 ?_
 refine jR rfl rfl ?_;intro K d;refine jr 103 (.tmp 2) (.tmp 7) rfl w.heap.size 103 _ #[ι s.cur,ι s.tgt] rfl rfl (qr J.o 1) ξ rfl (all_oneCell_toArray W5) ?_;refine⟨qi (((jt.refl (λb=>b=w.heap.size) W1).drewN 1).row (g:=w.heap.size) rfl _), ?_⟩;go_simp;refine d _ _ ?_;clear d K
 iterate 1 (refine qE rfl rfl (qi (((jt.refl (λb=>b=w.heap.size) W1).drewN 1).row (g:=w.heap.size) rfl _)) ?_;intro K d;go_big_quiet_op;go_big_quiet_on)
 refine qA ?_;go_wp2;refine bodyPost_ret (v:= .tuple #[θ #[ι s.cur,ι s.tgt],s.wanted]) (yo results67 _ _ w.heap.size 103 #[ι s.cur,ι s.tgt] _ _ rfl rfl (jY (qr J.o 1) _) underlying103 rfl ξ) rfl ?_;exact⟨rfl,(EC _ _ _).to_more (I.o.dr 1) (λk e=>by rw[e];exact ϕ _)⟩
def LnX.setL (h:LnX N w k vo s) (a:jt (λb=>b=k.L) w w') (J:w'.heap[k.L]? =ϊ (.cells (jQ k vo s') 153 (0,0)))
  (e:s'.room=s.room/\s'.A=s.A/\s'.B=s.B/\s'.C=s.C/\s'.W=s.W) (ag:KM s'):LnX (xf N w w') w' k vo s':=by
 obtain⟨⟨M,O,U,Y,aa,ab⟩,_⟩:=h.dist;obtain⟨G,ac,ad,ae,af⟩:=e;have H: ∀b,b=k.L->lnE N k vo b:=λb d=>kZ (ϒ d)
 have I: ∀b,lnE (xf N w w') k vo b->lnE N k vo b∨w'.heap.size<=b:=λb d=>ϒ (xE h.own (λ_ e=>ϒ e) d)
 refine h.make a.size J ?_ ?_ ?_ ?_ ag
 ·rw[G,ac];exact h.r1.step a (C0 M) (C0 O) H I
 ·rw[G,ad];exact h.r2.step a (C0 U) (C0 Y) H I
 ·rw[G,ae];exact h.r3.step a (C0 aa) (C0 ab) H I
 ·rw[af];exact h.rows (a.mono λb d=>ϒ d)
def Ec (h:LnX N w k vo s) (n:Int):Calls prog 91 #[γ k.L,ι n] w λe w'=>e= .returned (ι (jO s n).2)/\LnX (xf N w w') w' k vo (jO s n).1/\jt N w w':=by
 have I:=κ h;have aj:k.L<w.heap.size:=qn h.blk;cases ht:jj n with
 | false=>
  have Y:=κ ht;have M:jO s n=(s,1):=by unfold jO;rw[ϐ ht]
  rw[M];clear M ht h
  go_enter func91,ntmps91
  go_wp2_with (go_at_call 151;(go_call xX n _ as e w1 ⟨rfl,rfl⟩;rw[Y.o]))
  go_ret;exact⟨rfl,I.o.grow (ql.refl _),jt.refl _ _⟩
 | true=>
  have Y:=κ ht;cases hg:s.gone with
  | true=>
   have M:jO s n=(s,7):=by unfold jO;rw[ώ (by rw[ht];decide),ϐ hg]
   have J:=gF h;rw[hg] at J;have J:=κ J;rw[M];clear M ht h hg
   go_enter func91,ntmps91
   go_wp2_with (first | (go_at_call 151;(go_call xX n _ as e w1 ⟨rfl,rfl⟩;rw[Y.o])) | (go_at_call 69;(go_call J.o as e w2 ⟨rfl,O⟩;have ab:=κ O;clear O)))
   go_ret;exact⟨rfl,I.o.grow ab.o,jt.of_more ab.o⟩
  | false=>
   have M:jO s n=({s with wanted:=ό,cur:=if s.wanted then s.cur else -1,tgt:=n},0):=by unfold jO;rw[ώ (by rw[ht];decide),ώ (by rw[hg];decide)]
   have J:=gF h;rw[hg] at J;have J:=κ J;rw[M];clear M ht h hg;cases hw:s.wanted with
   | true=>
    have ac:=κ hw;clear hw
    go_enter func91,ntmps91
    go_wp2_with (first | (go_at_call 151;(go_call xX n _ as e w1 ⟨rfl,M⟩;subst w1;rw[Y.o])) | (go_at_call 69;(go_call J.o as e w2 ⟨rfl,O⟩;have ab:=κ O;have U:=κ (qq O I.o.blk);clear O;have c4:w2.cell? ⟨k.L,4,ϋ⟩=ϊ (μ ό):=(by rw[<-ac.o];exact qm U.o 4 rfl);have c5:w2.cell? ⟨k.L,5,ϋ⟩=ϊ (ι s.cur):=qm U.o 5 rfl;have ae:w2.cell? ⟨k.L,6,ϋ⟩=ϊ (ι s.tgt):=qm U.o 6 rfl)) | (go_at_call 152;(go_call QT s.cur s.tgt n Y.o _ as e d ⟨rfl,aa⟩;have ad:Hid (ql w d):=κ (ab.o.trans aa);have G:=κ (qq aa U.o);clear aa;have c5:d.cell? ⟨k.L,5,ϋ⟩=ϊ (ι s.cur):=qm G.o 5 rfl;have ae:d.cell? ⟨k.L,6,ϋ⟩=ϊ (ι s.tgt):=qm G.o 6 rfl;have c4:d.cell? ⟨k.L,4,ϋ⟩=ϊ (μ s.wanted):=qm G.o 4 rfl;have ag:d.frozen? ⟨k.L,4,ϋ⟩=ύ:=yw G.o 4;have ah:d.frozen? ⟨k.L,5,ϋ⟩=ύ:=yw G.o 5;have ai:d.frozen? ⟨k.L,6,ϋ⟩=ύ:=yw G.o 6)))
    go_ret;have A:jt (λb=>b=k.L) w (((d.setCell ⟨k.L,5,ϋ⟩ (ι s.cur)).setCell ⟨k.L,6,ϋ⟩ (ι n)).setCell ⟨k.L,4,ϋ⟩ (μ ό)):=(((jt.of_more (S:=λb=>b=k.L) ad.o).set (p:=⟨k.L,5,ϋ⟩) rfl _).set (p:=⟨k.L,6,ϋ⟩) rfl _).set (p:=⟨k.L,4,ϋ⟩) rfl _;have H:=I.o.ok;exact⟨rfl,I.o.setL A (qB (qp (qp (qp G.o 5 _) 6 _) 4 _) (by rfl)) ⟨rfl,rfl,rfl,rfl,rfl⟩ ⟨H.most,H.row,H.lt,H.sq,H.src⟩,A.mono λb af=>by rw[af];exact I.o.muts _ (ϒ rfl)⟩
   | false=>
    have ac:=κ hw;clear hw
    go_enter func91,ntmps91
    go_wp2_with (first | (go_at_call 151;(go_call xX n _ as e w1 ⟨rfl,M⟩;subst w1;rw[Y.o])) | (go_at_call 69;(go_call J.o as e w2 ⟨rfl,O⟩;have ab:=κ O;have U:=κ (qq O I.o.blk);clear O;have c4:w2.cell? ⟨k.L,4,ϋ⟩=ϊ (μ ύ):=(by rw[<-ac.o];exact qm U.o 4 rfl);have c5:w2.cell? ⟨k.L,5,ϋ⟩=ϊ (ι s.cur):=qm U.o 5 rfl;have ae:w2.cell? ⟨k.L,6,ϋ⟩=ϊ (ι s.tgt):=qm U.o 6 rfl)) | (go_at_call 153;(go_call YS n Y.o _ as e d ⟨rfl,aa⟩;have ad:Hid (ql w d):=κ (ab.o.trans aa);have G:=κ (qq aa U.o);clear aa;have c5:d.cell? ⟨k.L,5,ϋ⟩=ϊ (ι s.cur):=qm G.o 5 rfl;have ae:d.cell? ⟨k.L,6,ϋ⟩=ϊ (ι s.tgt):=qm G.o 6 rfl;have c4:d.cell? ⟨k.L,4,ϋ⟩=ϊ (μ s.wanted):=qm G.o 4 rfl;have ag:d.frozen? ⟨k.L,4,ϋ⟩=ύ:=yw G.o 4;have ah:d.frozen? ⟨k.L,5,ϋ⟩=ύ:=yw G.o 5;have ai:d.frozen? ⟨k.L,6,ϋ⟩=ύ:=yw G.o 6)))
    go_ret;have A:jt (λb=>b=k.L) w (((d.setCell ⟨k.L,5,ϋ⟩ (ι (-1))).setCell ⟨k.L,6,ϋ⟩ (ι n)).setCell ⟨k.L,4,ϋ⟩ (μ ό)):=(((jt.of_more (S:=λb=>b=k.L) ad.o).set (p:=⟨k.L,5,ϋ⟩) rfl _).set (p:=⟨k.L,6,ϋ⟩) rfl _).set (p:=⟨k.L,4,ϋ⟩) rfl _;have H:=I.o.ok;exact⟨rfl,I.o.setL A (qB (qp (qp (qp G.o 5 _) 6 _) 4 _) (by rfl)) ⟨rfl,rfl,rfl,rfl,rfl⟩ ⟨H.most,H.row,H.lt,H.sq,H.src⟩,A.mono λb af=>by rw[af];exact I.o.muts _ (ϒ rfl)⟩
def Iu (m d H sq st:Int) (n:Nat) (ac:m=n) (U:1<=n) (Y:n<=8) (af:1<=d) (ag:d<=10) (aB:U16 sq) (aC:U32 H) (w:World):Calls prog 88 #[θ #[ι m,ι d,ω H,φ sq,ω st]] w λe w'=> ∃L,e= .returned (.tuple #[γ L,ι 0])/\zw (λb=>w.heap.size<=b/\b<w'.heap.size) w' L (Vd n d H sq st)/\ql w w':=by
 have aI:=κ (Pp m n ac U Y);have aJ:=κ (Pq m n ac U Y);have aK:=κ (Po m n ac U Y);have aL:=κ (Ka d af ag);have aN:Hid (KM (Vd n d H sq st)):=κ ⟨⟨af,ag⟩,⟨P4 _,(by show 0<=d;omega)⟩,λ_=>(by show 0<d;omega),aB,aC⟩;clear ac U Y af ag aB aC
 go_enter func88,ntmps88
 go_wp2_with (first | (go_at_call 146;(go_call aI.o _ as e w1 ⟨rfl,ay,ai⟩;have ao:Hid (qN 13 327 253 w1 (w.heap.size+1+1) (w.heap.size+1) n 0 [] 0 0 0 0 (List.replicate n (Γa:List Value))):=κ (by simpa using ay);have ar:=κ (qq ai (qj w (.cells #[ι m,ι d,ω H,φ sq,ω st] 199)));have aQ:Hid (ql w w1):=κ (W4.trans ai);clear ai ay;have aS:w1.cell? ⟨w.heap.size,0,ϋ⟩=ϊ (ι m):=qm ar.o 0 rfl)) | (go_at_call 147;(go_call aJ.o _ as e w2 ⟨rfl,az,aj⟩;have ap:=κ az;have au:=κ (qq aj ar.o);have aw:Hid (ql w1 w2):=κ aj;clear aj az;have aS:w2.cell? ⟨w.heap.size,0,ϋ⟩=ϊ (ι m):=qm au.o 0 rfl)) | (go_at_call 148;(go_call aK.o _ as e ad ⟨rfl,aA,ak⟩;have aq:=κ aA;have av:=κ (qq ak au.o);have ae:Hid (ql w2 ad):=κ ak;clear ak aA;have c1:ad.cell? ⟨w.heap.size,1,ϋ⟩=ϊ (ι d):=qm av.o 1 rfl)) | (go_at_call 149;(go_call aL.o _ as e w4 ⟨rfl,am⟩;have aR:Hid (ql ad w4):=κ am;have aO:=κ (qq am av.o);clear am)))
 obtain⟨I,aa⟩:=ν (w4.alloc (.cells #[ι d,ι 0,ύ] 151));have ax:Hid (ql w4 I):=κ (by rw[<-aa];exact ql.alloc _ _);have aP:=κ (qq ax.o aO.o);have aH:Hid (I.heap[w4.heap.size]? =ϊ (.cells #[ι d,ι 0,ύ] 151 (0,0))):=κ (by rw[<-aa];exact qj w4 _);rw[aa];clear aa;have N:=λ(x:qt I)=>qq x.h aP.o
 have c2:=λx=>β2 (N x);have c3:=λx=>β3 (N x);have c4:=λx=>β4 (N x);clear N
 have aM: ∀x:qt I,x.w'.rangeAt w4.heap.size 0 [ι d,ι 0,ύ]:=λx=>xy (qq x.h aH.o)
 refine zC I 15 [(0,ύ),(1,ύ),(2,ύ),(3,ύ),(4,ύ),(5,ύ),(6,ύ),(7,ύ),(8,ύ),(10,ύ),(9,ό),(11,ύ),(12,ό),(13,ύ),(14,ύ)] ξ ξ ?_
 refine Qq9 ?_
 refine jh rfl rfl (qk ρ) 151 (.tmp 8) rfl w4.heap.size 0 rfl [ι d,ι 0,ύ] _ (λw' aT=>by obtain⟨x,rfl⟩:=aT;exact aM x) underlying151 rfl ξ ?_;intro K G;go_simp;refine G _ ?_;clear G K
 (refine Ql ?_;intro K G)
 go_call Zf H sq st _ as e w6 ⟨rfl,aD⟩;have J:Hid (ql I w6):=κ ((ql.drewN _ _).trans aD);clear aD;refine⟨_,rfl,qk J.o,G _ _ ?_⟩;clear G K
 iterate 1 (refine qE rfl rfl (qk J.o) ?_;intro K G;go_big_quiet_op;go_big_quiet_on)
 (refine Ql ?_;intro K G)
 refine⟨qk (J.o.al _),G _ _ ?_⟩;clear G K
 iterate 2 (refine qE rfl rfl (qk (J.o.al _)) ?_;intro K G;go_big_quiet_op;go_big_quiet_on)
 refine qA ?_;go_wp2;refine bodyPost_ret (v:= .tuple #[γ w6.heap.size,ι 0]) (by simp[results,results88,go_sem]) rfl ?_;obtain⟨W7,ab⟩:=ν (w6.alloc (.cells #[δ ϋ 0 0,γ (w.heap.size+1+1),γ (w1.heap.size+1),γ (w2.heap.size+1),ύ,ι 0,ι 0,ω H,φ sq,ω st,ύ,ω 0,ω 0,ι d,ι 0,ύ] 153));have an:W7.heap[w6.heap.size]? =ϊ (.cells (jQ ⟨w6.heap.size,w.heap.size+1+1,w.heap.size+1,w1.heap.size+1,w1.heap.size,w2.heap.size+1,w2.heap.size⟩ (δ ϋ 0 0) (Vd n d H sq st)) 153 (0,0)):=by rw[<-ab];exact qj w6 _
 have O:ql w6 W7:=by rw[<-ab];exact ql.alloc _ _
 have aU:w6.heap.size<W7.heap.size:=qn an;rw[ab];clear ab;have M:ql ad w6:=(aR.o.trans ax.o).trans J.o;have aW:=qn ao.o.ring;have aX:=qn ap.o.ring;have z3:=qn aq.o.ring;have aV:=M.size;have aE:=(ao.o.more ((aw.o.trans ae.o).trans (M.trans O)));have aF:=(ap.o.more (ae.o.trans (M.trans O)));have aG:=(aq.o.more (M.trans O));refine⟨_,rfl,⟨⟨w6.heap.size,w.heap.size+1+1,w.heap.size+1,w1.heap.size+1,w1.heap.size,w2.heap.size+1,w2.heap.size⟩,δ ϋ 0 0,rfl, ?_⟩,((aQ.o.trans aw.o).trans ae.o).trans (M.trans O)⟩;refine⟨λb ah=>ah.2,λb ah=> ?_,by simp only;omega,an,⟨_,_,_,_,_,_,_,aE,trivial⟩,⟨_,_,_,_,_,_,_,aF,trivial⟩,⟨_,_,_,_,_,_,_,aG,trivial⟩,je.nil 2 ROu _ W7 0 _,aN.o⟩;rcases ah with e | (e | e) | (e | e) | (e | e)<;>(simp only at e;subst e;constructor<;>omega)
end Go.Proofs.YtlmllmonabafjaaGreatDoor
