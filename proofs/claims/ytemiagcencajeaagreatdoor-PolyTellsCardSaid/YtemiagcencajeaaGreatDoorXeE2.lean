import Derived.Test.YtemiagcencajeaaGreatDoorXeE1
import Derived.Laws.StructEq
import Derived.MapKept
set_option linter.unusedSimpArgs false
set_option linter.unusedVariables false
set_option linter.unusedSectionVars false
namespace Go.Eng
open Go Go.RowKit
section
variable {P:Program} {base:Nat} {okin:Nat->Prop} {σ:Nat->Option (Nat × Nat)} {h:af} {w:World} {G:Nat->Option I} {F:Nat->I} {a:Act}
theorem O' {i j sz:Nat} (aA:j<sz):(i*sz+j)/sz=i/\(i*sz+j)%sz=j:=by
 have aF:0<sz:=by omega
 constructor
 · rw[Nat.add_comm,Nat.add_mul_div_right _ _ aF,Nat.div_eq_of_lt aA,Nat.zero_add]
 · rw[Nat.add_comm,Nat.add_mul_mod_self_right,Nat.mod_eq_of_lt aA]
theorem xz (H:cn base okin σ h w) {v:I} {cv:Value} (av:a2 w (bk base okin σ h) σ v cv) {ys:List I} (he:elems h v=some ys) {sz:Nat} (c7:∀e∈ys,e.cells.length=sz) (aF:0<sz):
 ∃A c,cv= .slice A ys.length c/\∃arr,(Builtin.firstCells sz ys.length cv).run P w= .ok arr w/\lL w (bk base okin σ h) σ sz ys arr:=by
 unfold elems at he
 split at he
 · rename_i xs ex
   injection he with he
   subst he
   have aH:=av.qf
   cases aH with
   | sl _ _ A c fG dO U h2 az aT b9 ei=>
     refine⟨A,c,rfl,?_⟩
     by_cases aD:xs.length=0
     · have ae:xs= []:=List.eq_nil_of_length_eq_zero aD
       subst ae
       cases A with
       | none=>exact ⟨#[],by simp[Builtin.firstCells],by simp,fun i ab=>absurd ab (by simp)⟩
       | some cb=>exact ⟨#[],by simp[Builtin.firstCells,loadCells,loadCellsFrom],by simp,fun i ab=>absurd ab (by simp)⟩
     · have rC:fG=sz:=by
        have:=az 0 (by omega)
        have:=c7 _ (List.getElem_mem (show 0<xs.length by omega))
        omega
       subst rC
       have a4:=b9 (by omega)
       obtain⟨cb,rfl⟩:=Option.isSome_iff_exists.1 a4
       have aw:∀k,k<xs.length*fG->w.cell? (cb.add k)=some ((fun k=>dO (k/fG) (k%fG)) k):=by
        intro k ag
        have ab:k/fG<xs.length:=Nat.div_lt_of_lt_mul (by rw[Nat.mul_comm];exact ag)
        obtain⟨Pa,e,_,J⟩:=aT (k/fG) (k%fG) ab (Nat.mod_lt _ aF)
        cases e
        have:k/fG*fG+k%fG=k:=by rw[Nat.mul_comm];exact Nat.div_add_mod k fG
        rwa [this] at J
       refine⟨_,by simp only[Builtin.firstCells];exact run_loadCells w cb (xs.length*fG) _ aw,?_⟩
       refine⟨by simp,fun i ab=>⟨az i ab,fun j aA ag=>?_⟩⟩
       have j2:j<fG:=by have:=az i ab;omega
       have:=O' (i:=i) j2
       simp only[List.getElem_toArray,List.getElem_map,List.getElem_range,this.1,this.2]
       exact .val _ _ (ei i ab j aA)
 · rename_i id off len cap
   split at he<;>try(cases he;done)
   rename_i blk aa
   split at he<;>try(cases he;done)
   rename_i hle
   cases he
   obtain⟨A,c,b,bQ,rfl,al,ao,aV,bJ⟩:=av.qg
   have hlen:((blk.drop off).take len).length=len:=by simp;omega
   rw[hlen]
   refine⟨A,c,rfl,?_⟩
   by_cases aD:len=0
   · subst aD
     refine⟨#[],?_,by simp,fun i ab=>absurd ab (by simp)⟩
     cases A with
     | none=>simp[Builtin.firstCells]
     | some cb=>simp[Builtin.firstCells,loadCells,loadCellsFrom]
   · obtain⟨jS,fG,arr,ty,f1,f2,f3⟩:=H.blk id blk aa
     rw[al] at f1;cases f1
     have kv:∀i,i<len->∃ab:off+i<blk.length,blk[off+i].cells.length=sz:=by
      intro i ab
      refine⟨by omega,c7 _ ?_⟩
      have:(((blk.drop off).take len)[i]'(by rw[hlen];exact ab))=blk[off+i]'(by omega):=by simp
      rw[<-this];exact List.getElem_mem _
     have rC:bQ=sz:=by
      obtain⟨ab,e⟩:=kv 0 (by omega)
      have:=(f3 _ ab).1;omega
     subst rC
     obtain⟨rfl,_⟩:=bJ (by omega)
     have aw:∀k,k<len*bQ->w.cell? ((⟨b,off*bQ,none⟩:Addr).add k)=some ((fun k=>(arr[off*bQ+k]?).getD undef) k):=by
      intro k ag
      have ab:k/bQ<len:=Nat.div_lt_of_lt_mul (by rw[Nat.mul_comm];exact ag)
      obtain⟨bI,e⟩:=kv _ ab
      have hm:=Nat.mod_lt k aF
      obtain⟨lq,bE,_⟩:=(f3 _ bI).2 (k%bQ) (by omega)
      have:(off+k/bQ)*bQ+k%bQ=off*bQ+k:=by rw[Nat.add_mul,Nat.add_assoc];congr 1;rw[Nat.mul_comm];exact Nat.div_add_mod k bQ
      rw[this] at bE
      rw[o9]
      simp only[World.cell?,f2,Option.isSome_none,Bool.false_eq_true,if_false]
      rw[bE];rfl
     refine⟨_,by simp only[Builtin.firstCells];exact run_loadCells w ⟨b,off*bQ,none⟩ (len*bQ) _ aw,?_⟩
     refine⟨by simp[hlen],fun i ab=>?_⟩
     have Pb:i<len:=by rw[hlen] at ab;exact ab
     obtain⟨bI,e⟩:=kv i Pb
     have bz:((blk.drop off).take len)[i]=blk[off+i]'(by omega):=by simp
     rw[bz]
     refine⟨e,fun j aA ag=>?_⟩
     obtain⟨lq,bE,cp⟩:=(f3 _ bI).2 j aA
     have:(off+i)*bQ+j=off*bQ+(i*bQ+j):=by rw[Nat.add_mul];omega
     rw[this] at bE
     simp only[List.getElem_toArray,List.getElem_map,List.getElem_range]
     rw[bE];exact cp
 · cases he
theorem F6 (n:Nat):∀(r c:Nat),256<=c->c<=2*n->Builtin.growBy n r c<=2*n
 | 0,c,_,h=>h
 | r+1,c,U,h2=>by
   unfold Builtin.growBy
   split
   · exact h2
   · exact F6 n r _ (by omega) (by omega)
theorem Pc {n c:Nat} (h:c<n):Builtin.nextslicecap n c<=2*n:=by
 unfold Builtin.nextslicecap
 split
 · omega
 · split
   · omega
   · exact F6 n 4 c (by omega) (by omega)
theorem lL.append {ok:Nat->Prop} {sz:Nat} {xs ys:List I} {a1 eO:Array Value} (U:lL w ok σ sz xs a1) (h2:lL w ok σ sz ys eO):lL w ok σ sz (xs++ys) (a1++eO):=by
 refine⟨by simp[U.1,h2.1,Nat.add_mul],fun i ab=>?_⟩
 by_cases ae:i<xs.length
 · have e:(xs++ys)[i]=xs[i]:=List.getElem_append_left ae
   rw[e]
   refine⟨(U.2 i ae).1,fun j aA ag=>?_⟩
   have bq:i*sz+j<a1.size:=by rw[U.1];exact oa ae (by have:=(U.2 i ae).1;omega)
   rw[Array.getElem_append_left bq]
   exact (U.2 i ae).2 j aA bq
 · have aO:i - xs.length<ys.length:=by simp at ab;omega
   have e:(xs++ys)[i]=ys[i - xs.length]:=List.getElem_append_right (by omega)
   rw[e]
   refine⟨(h2.2 _ aO).1,fun j aA ag=>?_⟩
   have hle:xs.length*sz<=i*sz:=Nat.mul_le_mul_right _ (by omega)
   have bq:(i - xs.length)*sz+j<eO.size:=by rw[h2.1];exact oa aO (by have:=(h2.2 _ aO).1;omega)
   have rD:a1.size<=i*sz+j:=by rw[U.1];omega
   rw[Array.getElem_append_right rD]
   have ao:i*sz+j - a1.size=(i - xs.length)*sz+j:=by rw[U.1,Nat.sub_mul];omega
   simp only[ao]
   exact (h2.2 _ aO).2 j aA bq
theorem F7 {t u e e':TypeId} (aJ:P.underlying t=some (.slice e)) (hu:P.underlying u=some (.slice e')) {sz bytes:Nat} (au:iQ P e=some sz) (aa:AW P e=some bytes) {z:I} (ar:zeroOf P e=some z)
 (A:Option Addr) (n c:Nat) (B:Option Addr) (m d:Nat) (F8:c<n+m) (du:0<bytes) (rB:(n+m)*bytes<=35184372088832) {lN new:Array Value}
 (ay:(Builtin.firstCells sz n (.slice A n c)).run P w.drew= .ok lN w.drew) (aq:(Builtin.firstCells sz m (.slice B m d)).run P w.drew= .ok new w.drew):
 ∃rE rest,n+m<=rE/\(Builtin.append_ #[t,u] t #[.slice A n c,.slice B m d]).run P w= .ok (.slice (some ⟨w.heap.size,0,none⟩) (n+m) rE) (w.drew.alloc (.cells (lN++new++rest) e))/\(rest.size=(rE -(n+m))*z.cells.length):=by
 obtain⟨ax,dE,iL,xy,_⟩:=tp (P:=P) (w:=w.drew) (σ:=fun _=>none) (ok:=fun _=>True) ar
 obtain⟨i,ab,ac2⟩:=Option.map_eq_some_iff.1 au
 have Bf:i.bytes=bytes:=by
  obtain⟨iK,al,ao⟩:=Option.map_eq_some_iff.1 aa
  rw[ab] at al;cases al;exact ao
 have F9:=Pc F8
 have Pd:¬(Builtin.nextslicecap (n+m) c*i.bytes>2^48):=by
  rw[Bf]
  have:Builtin.nextslicecap (n+m) c*bytes<=2*(n+m)*bytes:=Nat.mul_le_mul_right _ F9
  rw[Nat.mul_assoc] at this
  omega
 have U:¬(n+m<=c):=by omega
 have lv:i.bytes≠0:=by omega
 refine⟨(Question.appendCap (n+m) c e).cut (w.tape w.drawn (.appendCap (n+m) c e)),Builtin.zeroCells ax.cells ((Question.appendCap (n+m) c e).cut (w.tape w.drawn (.appendCap (n+m) c e)) -(n+m)),by simp[Question.cut],?_,by simp[Builtin.zeroCells,iL.1]⟩
 simp[Builtin.append_,run_underlying aJ,run_underlying hu,run_sizeOf au,Builtin.lenOf,run_typeInfo ab,U,lv,Pd,Question.forced,ay,aq,dE,newRow]
theorem cn.drew (H:cn base okin σ h w):cn base okin σ h w.drew/\Prog base okin σ h w σ h w.drew:=by
 have P:Prog base okin σ h w σ h w.drew:=⟨fun _ _ x=>x,fun _ _ ay=>⟨ay,rfl⟩,(Below.refl _ _).drew,fun _=>Nat.le_refl _⟩
 refine⟨⟨H.val,fun id fT iw=>?_,H.inj,H.base⟩,P⟩
 obtain⟨b,s,a,t,al,ao,aV⟩:=H.blk id fT iw
 refine⟨b,s,a,t,al,ao,fun i ab=>⟨(aV i ab).1,fun j aA=>?_⟩⟩
 obtain⟨v,f1,f2⟩:=(aV i ab).2 j aA
 exact ⟨v,f1,P.rep f2⟩
theorem cn.kill (H:cn base okin σ h w) (id:Nat):cn base okin σ {h with cells:=an h.cells id none} w/\Prog base okin σ h w σ {h with cells:=an h.cells id none} w:=by
 have P:Prog base okin σ h w σ {h with cells:=an h.cells id none} w:=by
  refine⟨fun _ _ x=>x,fun b aa ay=>⟨?_,rfl⟩,Below.refl _ _,fun _=>Nat.le_refl _⟩
  rcases ay with ay|⟨U,h2⟩
  · exact .inl ay
  · refine .inr ⟨U,fun i s au aw=>h2 i s au ?_⟩
    by_cases e:i=id
    · simp[an,e] at aw
    · simpa[an,e] using aw
 refine⟨⟨H.val,fun i fT iw=>?_,fun i iK b s aj U h2=>H.inj i iK b s aj ?_ ?_,H.base⟩,P⟩
 · by_cases e:i=id
   · simp[an,e] at iw
   · have o7:h.cells i=some fT:=by simpa[an,e] using iw
     obtain⟨b,s,a,t,al,ao,aV⟩:=H.blk i fT o7
     refine⟨b,s,a,t,al,ao,fun i ab=>⟨(aV i ab).1,fun j aA=>?_⟩⟩
     obtain⟨v,f1,f2⟩:=(aV i ab).2 j aA
     exact ⟨v,f1,P.rep f2⟩
 · by_cases e:i=id
   · simp[an,e] at U
   · simpa[an,e] using U
 · by_cases e:iK=id
   · simp[an,e] at h2
   · simpa[an,e] using h2
theorem lL.cell {ok:Nat->Prop} {sz:Nat} {es:List I} {arr:Array Value} (H:lL w ok σ sz es arr) (rest:Array Value) (i:Nat) (ab:i<es.length):
 es[i].cells.length=sz/\∀j (aA:j<es[i].cells.length),∃v,(arr++rest)[i*sz+j]? =some v/\a2 w ok σ (es[i].cells[j]) v:=by
 refine⟨(H.2 i ab).1,fun j aA=>?_⟩
 have bq:i*sz+j<arr.size:=by rw[H.1];exact oa ab (by have:=(H.2 i ab).1;omega)
 exact ⟨_,by rw[Array.getElem?_append_left bq];exact Array.getElem?_eq_getElem bq,(H.2 i ab).2 j aA bq⟩
theorem xA {ys:List I} {sz:Nat} (h:(ys.all fun e=>e.cells.length == sz)=true):∀e∈ys,e.cells.length=sz:=fun e he=>by
 simpa using List.all_eq_true.1 h e he
theorem lL.vc {ok:Nat->Prop} {sz:Nat} {es:List I} {arr:Array Value} (H:lL w ok σ sz es arr) (aF:0<sz) (au:∀e∈es,e.cells.all I.bW=true):∀v∈arr.toList,v.oneCell'=true:=by
 intro v av
 obtain⟨k,ag,rfl⟩:=List.getElem_of_mem av
 have jA:k<arr.size:=by simpa using ag
 have jn:k<es.length*sz:=by rw[<-H.1];exact jA
 have ab:k/sz<es.length:=Nat.div_lt_of_lt_mul (by rw[Nat.mul_comm];exact jn)
 have aA:=Nat.mod_lt k aF
 have e:k/sz*sz+k%sz=k:=by rw[Nat.mul_comm];exact Nat.div_add_mod k sz
 have aw:=(H.2 _ ab).1
 have r:=(H.2 _ ab).2 (k%sz) (by omega) (by rw[e];exact jA)
 have iS:=r.vc (List.all_eq_true.1 (au _ (List.getElem_mem ab)) _ (List.getElem_mem (by omega)))
 simpa[e] using iS
theorem Pe (H:cn base okin σ h w) (br:jV G (bk base okin σ h) σ w F a) {r:Nat} (aH:σ r=none) {args:Array Operand} {argTypes:Array TypeId} {ty:TypeId} {lK:jQ}
 (J:fF P (.call {callee:= .builtin .append,args,argTypes})=some lK) {aX:Nat} {v:I} {h':af} {c:dy}
 (he:evalOp aX r (aQ.ev G F) h lK=some (v,h',c)):
 ∃ba cv aN,(Builtin.append_ argTypes ty (args.map a.eval)).run P w= .ok cv aN/\Prog base okin σ h w ba h' aN/\cn base okin ba h' aN/\a2 aN (bk base okin ba h') ba v cv/\∀id,id≠r->ba id=σ id:=by
 simp only[fF] at J
 split at J<;>try(cases J;done)
 rename_i t u X Y aJ fu
 have Bi:argTypes= #[t,u]:=by rw[<-Array.toList_inj];exact aJ
 have rF:args= #[X,Y]:=by rw[<-Array.toList_inj];exact fu
 subst Bi;subst rF
 split at J<;>try(cases J;done)
 rename_i e e' hu xB
 split at J<;>try(cases J;done)
 rename_i sz bytes z x y au aa ar ae aO
 split at J<;>try(cases J;done)
 rename_i vl
 cases J
 simp only[evalOp] at he
 obtain⟨ys,j3,he⟩:=Option.bind_eq_some_iff.1 he
 split at he<;>try(cases he;done)
 rename_i nn
 obtain⟨bd,bs,bK⟩:=nn
 have F_:∀q∈ys,q.cells.length=sz:=fun q aG=>by
  have:=List.all_eq_true.1 bK q aG
  simp only[Bool.and_eq_true,beq_iff_eq] at this
  exact this.1
 have Pf:∀q∈ys,q.cells.all I.bW=true:=fun q aG=>by
  have:=List.all_eq_true.1 bK q aG
  simp only[Bool.and_eq_true,beq_iff_eq] at this
  exact this.2
 have rx:=br.dA ae
 have ry:=br.dA aO
 obtain⟨vm,vn⟩:=H.drew
 obtain⟨B,d,Bj,new,xC,mz⟩:=xz (P:=P) H ry j3 F_ bd
 obtain⟨ac3,o2,Ga,Gb,Bk,xD⟩:=xz (P:=P) vm (vn.rep ry) j3 F_ bd
 rw[Bj] at Ga;cases Ga
 rw[Bj] at xC Bk
 have Pg:(#[X,Y]:Array Operand).map a.eval= #[a.eval X,a.eval Y]:=by simp
 rw[Pg,Bj]
 have Gc:∀(A:Option Addr) (n dt:Nat),ys.length=0->n<=dt->
  (Builtin.append_ #[t,u] ty #[.slice A n dt,.slice B ys.length d]).run P w= .ok (.slice A n dt) w:=fun A n dt jC hle=>by
  have rG:new.toList= []:=List.eq_nil_of_length_eq_zero (by have:=mz.1;rw[jC,Nat.zero_mul] at this;simpa using this)
  rw[jC] at xC|-
  cases A<;>simp[Builtin.append_,run_underlying hu,run_underlying xB,run_sizeOf au,Builtin.lenOf,hle,xC,rG,storeCells]
 split at he
 ·
  rename_i xs ex xE
  rw[xE] at rx
  split at he
  · rename_i jC
    cases he
    have mX:=rx.qf
    generalize kh:a.eval X=i_ at mX rx
    cases mX with
    | sl _ _ A dt _ _ hle _ _ _ _ _=>
      refine⟨σ,_,w,Gc A xs.length dt jC hle,⟨fun _ _ x=>x,fun _ _ ay=>⟨ay,rfl⟩,Below.refl _ _,fun _=>Nat.le_refl _⟩,H,rx,fun _ _=>rfl⟩
  split at he<;>try(cases he;done)
  rename_i jD
  obtain⟨c8,c_,h5,jB⟩:=jD
  cases he
  have Ph:=xA jB
  obtain⟨A,dt,i',lN,hold,Fold⟩:=xz (P:=P) vm (vn.rep rx) (ys:=xs) rfl Ph bd
  have F8:dt=xs.length:=by
   have mX:=rx.qf
   rw[i'] at mX
   cases mX with
   | sl _ _ _ _ _ _ _ h2=>exact h2 c8
  rw[i'] at hold|-
  obtain⟨rE,rest,bx,bZ,cX⟩:=F7 (P:=P) (w:=w) hu xB au aa ar A xs.length dt B ys.length d (by omega) bs c_ hold Bk
  have Bl:=Fold.append xD
  have vo:=vm.alloc aH (xs++ys) (lN++Gb++rest) e sz (fun i ab=>Bl.cell rest i ab)
  refine⟨_,_,_,by simpa[Builtin.append_] using bZ,vn.trans vo.2,vo.1,?_,fun id bn=>by simp[an,bn]⟩
  refine .ref r 0 _ _ _ rE w.heap.size sz (by simp[an]) bx bx (fun _=>⟨by simp,?_⟩)
  rw[show w.heap.size=w.drew.heap.size from rfl,A0]
  simp only[Array.size_append,Fold.1,xD.1,cX,vl]
  rw[<-Nat.add_mul,<-Nat.add_mul]
  exact Nat.le_of_eq (by congr 1;omega)
 ·
  rename_i id off len cap xE
  split at he
  · rename_i jC
    cases he
    rw[xE] at rx
    obtain⟨A,dt,b,bQ,i',bE,cp,fv,jW⟩:=rx.qg
    rw[i'] at rx|-
    exact ⟨σ,_,w,Gc A len dt jC cp,⟨fun _ _ x=>x,fun _ _ ay=>⟨ay,rfl⟩,Below.refl _ _,fun _=>Nat.le_refl _⟩,H,rx,fun _ _=>rfl⟩
  split at he<;>try(cases he;done)
  rename_i xF
  have xF:h.shut id=false:=by simpa using xF
  obtain⟨blk,nq,he⟩:=Option.bind_eq_some_iff.1 he
  split at he<;>try(cases he;done)
  rename_i jD
  obtain⟨c8,c_,h5,jB⟩:=jD
  rw[xE] at rx
  have Gd:=xA jB
  obtain⟨A,dt,b,bQ,i',bE,cp,fv,jW⟩:=rx.qg
  obtain⟨jS,ac4,arr,Pj,f1,f2,f3⟩:=H.blk id blk nq
  rw[bE] at f1;cases f1
  have Ge:0<blk.length->bQ=sz:=fun aD=>by
   have:=(f3 0 aD).1
   have:=Gd _ (List.getElem_mem aD)
   omega
  have Pk:iv w b=arr.size:=by unfold iv;rw[f2]
  have stay:len+ys.length<=dt->bQ=sz->
   (Builtin.append_ #[t,u] ty #[.slice A len dt,.slice B ys.length d]).run P w= .ok (.slice A (len+ys.length) dt) (w.setRow b (arr.toList.take (off*sz+len*sz)++new.toList++arr.toList.drop (off*sz+len*sz+new.toList.length)).toArray)/\
     off*sz+len*sz+new.toList.length<=arr.toList.length:=by
   intro hle j4
   subst j4
   obtain⟨rF,Bm⟩:=jW (by omega)
   rw[Pk] at Bm
   have xG:new.toList.length=ys.length*bQ:=by simp[mz.1]
   have o_:off*bQ+len*bQ+new.toList.length<=arr.toList.length:=by
    rw[xG]
    have:(off+(len+ys.length))*bQ<=(off+dt)*bQ:=Nat.mul_le_mul_right _ (by omega)
    rw[Nat.add_mul,Nat.add_mul] at this
    simp;omega
   refine⟨?_,o_⟩
   have eP:=run_storeCells_at (P:=P) b (off*bQ+len*bQ) Pj new.toList 0 arr w f2 (by simp only[Nat.add_zero];simpa using o_) (mz.vc bd Pf)
   simp only[Nat.add_zero] at eP
   have Pl:(⟨b,off*bQ,none⟩:Addr).add (len*bQ)=⟨b,off*bQ+len*bQ,none⟩:=o9 _ _ _
   subst rF
   simp[Builtin.append_,run_underlying hu,run_underlying xB,run_sizeOf au,Builtin.lenOf,hle,xC,Pl,eP]
  have Bn:∀(j4:bQ=sz),off*sz+len*sz+new.toList.length<=arr.toList.length->∀i (ab:i<blk.length) j (aA:j<sz),¬(off+len<=i/\i<off+len+ys.length)->
   ∃v,(arr.toList.take (off*sz+len*sz)++new.toList++arr.toList.drop (off*sz+len*sz+new.toList.length)).toArray[i*sz+j]? =some v/\a2 w (bk base okin σ h) σ (blk[i].cells[j]'(by rw[(f3 i ab).1,j4];exact aA)) v:=by
   intro j4 o_ i ab j aA xH
   subst j4
   obtain⟨v0,al,ao⟩:=(f3 i ab).2 j (by rw[(f3 i ab).1];exact aA)
   refine⟨v0,?_,ao⟩
   have bq:=(Array.getElem?_eq_some_iff.1 al).1
   have lr:=(Array.getElem?_eq_some_iff.1 al).2
   have xG:new.toList.length=ys.length*bQ:=by simp[mz.1]
   rw[List.getElem?_toArray,List.getElem?_eq_getElem (by simp at o_|-;omega),qh o_ _ _ (by simpa using bq),dif_neg]
   · simpa using lr
   · rw[xG]
     rintro ⟨dE,iL⟩
     apply xH
     have aV:off*bQ+len*bQ=(off+len)*bQ:=by rw[Nat.add_mul]
     have bJ:off*bQ+len*bQ+ys.length*bQ=(off+len+ys.length)*bQ:=by rw[Nat.add_mul,Nat.add_mul]
     rw[aV] at dE
     rw[bJ] at iL
     constructor
     · refine Nat.le_of_not_lt fun Pm=>?_
       have:=oa Pm aA;omega
     · refine Nat.lt_of_not_le fun Pn=>?_
       have:(off+len+ys.length)*bQ<=i*bQ:=Nat.mul_le_mul_right _ Pn
       omega
  have Bo:off*sz+len*sz+new.toList.length<=arr.toList.length->∀i (ab:i<ys.length) j (aA:j<sz),
   ∃v,(arr.toList.take (off*sz+len*sz)++new.toList++arr.toList.drop (off*sz+len*sz+new.toList.length)).toArray[(off+len+i)*sz+j]? =some v/\a2 w (bk base okin σ h) σ (ys[i].cells[j]'(by rw[(mz.2 i ab).1];exact aA)) v:=by
   intro o_ i ab j aA
   have xG:new.toList.length=ys.length*sz:=by simp[mz.1]
   have bq:=oa ab aA
   have aV:(off+len+i)*sz+j=off*sz+len*sz+(i*sz+j):=by rw[Nat.add_mul,Nat.add_mul];omega
   have k7:(off+len+i)*sz+j<arr.toList.length:=by omega
   rw[List.getElem?_toArray,List.getElem?_eq_getElem (by simp at o_ k7|-;omega)]
   refine⟨_,rfl,?_⟩
   rw[qh o_ _ _ k7,dif_pos (by omega)]
   have eW:(off+len+i)*sz+j -(off*sz+len*sz)=i*sz+j:=by omega
   have ag:i*sz+j<new.size:=by rw[mz.1];exact bq
   have:=(mz.2 i ab).2 j (by rw[(mz.2 i ab).1];exact aA) ag
   simpa[eW] using this
  have Gf:∀(o:Nat),o+new.toList.length<=arr.toList.length->arr.size<=(arr.toList.take o++new.toList++arr.toList.drop (o+new.toList.length)).toArray.size:=by
   intro o ay
   simp at ay|-;omega
  split at he
  ·
   rename_i Bm
   split at he<;>try(cases he;done)
   rename_i F9
   cases he
   have j4:=Ge (by omega)
   obtain⟨s1,s2⟩:=stay (by omega) j4
   rw[i']
   have W:=H.write (blk':=blk.take (off+len)++ys++blk.drop (off+len+ys.length)) (arr':=(arr.toList.take (off*sz+len*sz)++new.toList++arr.toList.drop (off*sz+len*sz+new.toList.length)).toArray) nq xF bE f2 (Gf _ s2) (fun i ab=>by
    have kN:off+len+ys.length<=blk.length:=by omega
    have bI:i<blk.length:=by simp at ab;omega
    have bz:=qh (cs:=blk) (vs:=ys) (off:=off+len) kN i ab bI
    rw[bz]
    by_cases cw:off+len<=i/\i<off+len+ys.length
    · simp only[dif_pos cw]
      refine⟨by rw[j4];exact (mz.2 _ (by omega)).1,fun j aA=>?_⟩
      have j2:j<sz:=by have:=(mz.2 (i -(off+len)) (by omega)).1;omega
      obtain⟨v,k5,k6⟩:=Bo s2 (i -(off+len)) (by omega) j j2
      have:off+len+(i -(off+len))=i:=by omega
      rw[this] at k5
      exact ⟨v,by rw[j4];exact k5,k6⟩
    · simp only[dif_neg cw]
      refine⟨(f3 i bI).1,fun j aA=>?_⟩
      obtain⟨v,k5,k6⟩:=Bn j4 s2 i bI j (by rw[<-j4,<-(f3 i bI).1];exact aA) cw
      exact ⟨v,by rw[j4];exact k5,k6⟩)
   refine⟨σ,_,_,s1,W.2,W.1,?_,fun _ _=>rfl⟩
   exact .ref id off _ cap A dt b bQ bE (by omega) fv (fun jE=>⟨(jW jE).1,Nat.le_trans (jW jE).2 (W.2.grow b)⟩)
  · rename_i Bm
    split at he<;>try(cases he;done)
    rename_i Bp
    cases he
    obtain⟨Bp,ac5⟩:=Bp
    subst Bp
    have j4:=Ge (by omega)
    rw[i']
    by_cases k7:len+ys.length<=dt
    ·
     obtain⟨s1,s2⟩:=stay k7 j4
     simp only[Nat.zero_mul,Nat.zero_add] at s1 s2 Bn Bo
     have R:=H.rename (r:=r) (blk':=blk.take len++ys) (arr':=(arr.toList.take (len*sz)++new.toList++arr.toList.drop (len*sz+new.toList.length)).toArray) nq xF aH bE f2 (Gf _ s2) (fun i ab=>by
      by_cases cw:i<len
      · have bz:(blk.take len++ys)[i]=blk[i]'(by omega):=by
         rw[List.getElem_append_left (by simp;omega)];simp
        rw[bz]
        refine⟨(f3 i (by omega)).1,fun j aA=>?_⟩
        obtain⟨v,k5,k6⟩:=Bn j4 s2 i (by omega) j (by rw[<-j4,<-(f3 i (by omega)).1];exact aA) (by omega)
        exact ⟨v,by rw[j4];exact k5,k6⟩
      · have pc:min len blk.length=len:=by omega
        have bI:i - len<ys.length:=by simp[pc] at ab;omega
        have bz:(blk.take len++ys)[i]=ys[i - len]:=by
         rw[List.getElem_append_right (by simp;omega)];simp[pc]
        rw[bz]
        refine⟨by rw[j4];exact (mz.2 _ bI).1,fun j aA=>?_⟩
        obtain⟨v,k5,k6⟩:=Bo s2 (i - len) bI j (by rw[<-(mz.2 _ bI).1];exact aA)
        have:len+(i - len)=i:=by omega
        rw[this] at k5
        exact ⟨v,by rw[j4];exact k5,k6⟩)
     refine⟨_,_,_,s1,R.2,R.1,?_,fun h4 bn=>by simp[an,bn]⟩
     refine .ref r 0 _ _ A dt b bQ (by simp[an]) k7 k7 (fun jE=>⟨(jW jE).1,Nat.le_trans (jW jE).2 (R.2.grow b)⟩)
    ·
     obtain⟨Po,Gg⟩:=vm.kill id
     have nr:elems h (.ref id 0 len cap)=some (blk.take len):=by
      simp only[elems,nq];rw[if_pos c8];simp
     have Pp:a2 w (bk base okin σ h) σ (.ref id 0 len cap) (a.eval X):=rx
     have pd:(blk.take len).length=len:=by simp;omega
     obtain⟨ac6,c',Gh,lN,hold,Fold⟩:=xz (P:=P) vm (vn.rep Pp) nr (fun q aG=>Gd q (List.mem_of_mem_take aG)) bd
     rw[i',pd] at Gh;cases Gh
     rw[i',pd] at hold
     obtain⟨rE,rest,bx,bZ,cX⟩:=F7 (P:=P) (w:=w) hu xB au aa ar A len dt B ys.length d (by omega) bs c_ hold Bk
     have Bl:=Fold.append xD
     have vo:=Po.alloc aH (blk.take len++ys) (lN++Gb++rest) e sz (fun i ab=>by
      obtain⟨dE,iL⟩:=Bl.cell rest i ab
      refine⟨dE,fun j aA=>?_⟩
      obtain⟨v,y1,dF⟩:=iL j aA
      exact ⟨v,y1,Gg.rep dF⟩)
     refine⟨_,_,_,by simpa[Builtin.append_] using bZ,(vn.trans Gg).trans vo.2,vo.1,?_,fun h4 bn=>by simp[an,bn]⟩
     refine .ref r 0 _ _ _ rE w.heap.size sz (by simp[an]) bx bx (fun _=>⟨by simp,?_⟩)
     rw[show w.heap.size=w.drew.heap.size from rfl,A0]
     simp only[Array.size_append,Fold.1,xD.1,cX,vl,pd]
     rw[<-Nat.add_mul,<-Nat.add_mul]
     exact Nat.le_of_eq (by congr 1;omega)
 · cases he
end
end Go.Eng
namespace Go.Eng
open Go Go.RowKit
section
variable {P:Program} {w:World} {σ:Nat->Option (Nat × Nat)}
theorem Gi {e:TypeId} {k:IntKind} (hu:P.underlying e=some (.int k)) (cs:Array Value) (i:Nat) (v:Value) (h:cs[i]? =some v):(part e cs i).run P w= .ok v w:=by
 have di:mw P e=some false:=by simp[mw,hu]
 simp[part,ve di,h]
theorem Gj:∀ {xs ys:List I} {b:Bool},eC xs ys=some b->xs.length=ys.length/\
 ∀i (h:i<xs.length) (h':i<ys.length),∃k x y,xs[i]= .int k x/\ys[i]= .int k y
 | [],[],b,_=>⟨rfl,fun i h=>absurd h (by simp)⟩
 | .int k x::xs,.int k' y::ys,b,h=>by
   simp only[eC] at h
   split at h
   · rename_i ag
     subst ag
     obtain⟨r,U,_⟩:=Option.map_eq_some_iff.1 h
     obtain⟨l,q⟩:=Gj U
     refine⟨by simp[l],fun i ab bI=>?_⟩
     cases i with
     | zero=>exact ⟨k,x,y,rfl,rfl⟩
     | succ i=>exact q i (by simpa using ab) (by simpa using bI)
   · cases h
theorem Gk {e:TypeId} {jo:IntKind} (hu:P.underlying e=some (.int jo)) (d:Nat) (xs ys:Array Value):∀(l:List Nat),
 (∀i∈l,∃k x y,xs[i]? =some (.int k x)/\ys[i]? =some (.int k y))->
 (forIn l ((none,()):Option Bool × Unit) (fun i ac7=>do
         let Bq <-part e xs (i*1)
         let Pq <-part e ys (i*1)
         let Bq <-Op.equalIn (d+1) e Bq Pq
         if (!Bq)=true then pure (ForInStep.done (some false,())) else pure (ForInStep.yield (none,()))):Sem (Option Bool × Unit)).run P w
   = .ok (if l.all (fun i=>match xs[i]?,ys[i]? with
       | some (.int _ x),some (.int _ y)=>x == y
       | _,_=>false) then (none,()) else (some false,())) w
 | [],_=>by simp
 | i::l,h=>by
   obtain⟨k,x,y,al,ao⟩:=h i (by simp)
   have a6:=Gk hu d xs ys l (fun j aA=>h j (by simp[aA]))
   rw[List.forIn_cons]
   have heq:(Op.equalIn (d+1) e (.int k x) (.int k y)).run P w= .ok (x == y) w:=by
    unfold Op.equalIn
    simp[run_underlying hu]
   simp only[Sem.run_bind,Nat.mul_one,Gi hu xs i _ al,Gi hu ys i _ ao,Result.andThen_ok,heq,List.all_cons,al,ao]
   by_cases m1:x=y
   · subst m1
     simp only[Nat.mul_one] at a6
     simp only[beq_self_eq_true,Bool.not_true,Bool.false_eq_true,if_false,Sem.run_pure,Result.andThen_ok,Bool.true_and]
     exact a6
   · have:(x == y)=false:=by simpa using m1
     simp[this]
theorem Gl:∀ {xs ys:List I} {b:Bool} (vp vq:Nat->Option Value),eC xs ys=some b->
 (∀i (h:i<xs.length) k x,xs[i]= .int k x->vp i=some (.int k x))->(∀i (h:i<ys.length) k y,ys[i]= .int k y->vq i=some (.int k y))->
 ((List.range' 0 xs.length).all fun i=>match vp i,vq i with
       | some (.int _ x),some (.int _ y)=>x == y
       | _,_=>false)=b
 | [],[],b,vp,vq,h,_,_=>by simp only[eC] at h;cases h;rfl
 | .int k x::xs,.int k' y::ys,b,vp,vq,h,ae,aO=>by
   simp only[eC] at h
   split at h
   · rename_i ag
     subst ag
     obtain⟨r,U,h2⟩:=Option.map_eq_some_iff.1 h
     have a6:=Gl (fun i=>vp (i+1)) (fun i=>vq (i+1)) U (fun i ab k x cw=>ae (i+1) (by simpa using ab) k x (by simpa using cw)) (fun i ab k y cw=>aO (i+1) (by simpa using ab) k y (by simpa using cw))
     have a0:=ae 0 (by simp) k x rfl
     have b0:=aO 0 (by simp) k y rfl
     rw[<-h2,<-a6]
     simp only[List.length_cons,List.range'_succ,List.all_cons,a0,b0,Nat.zero_add]
     congr 1
     rw[<-List.map_add_range' (a:=1) (s:=0),List.all_map]
     congr 1
     funext i
     simp[Nat.add_comm]
   · cases h
theorem Pr {ok:Nat->Prop} {t e:TypeId} {n:Nat} {jo:IntKind} (aJ:P.underlying t=some (.array n e)) (au:iQ P e=some 1) (hu:P.underlying e=some (.int jo)) {xs ys:List I} {i_ iR:Value}
 (ae:a2 w ok σ (.agg xs) i_) (aO:a2 w ok σ (.agg ys) iR) {b:Bool} (aa:eC xs ys=some b) (aq:xs.length=n):
 (Op.equal t i_ iR).run P w= .ok b w/\∃lx m2,i_= .agg lx/\iR= .agg m2:=by
 obtain⟨lx,rfl,cc,bu⟩:=ae.tg
 obtain⟨m2,rfl,ed,c2⟩:=aO.tg
 refine⟨?_,lx,m2,rfl,rfl⟩
 obtain⟨aw,ag⟩:=Gj aa
 show (Op.equalIn (9999+1) t (.agg lx) (.agg m2)).run P w=_
 unfold Op.equalIn
 simp only[Sem.run_bind,run_underlying aJ,Result.andThen_ok,run_sizeOf au]
 rw[Std.Legacy.Range.forIn_eq_forIn_range']
 simp only[Std.Legacy.Range.size,Nat.sub_zero,Nat.add_sub_cancel,Nat.div_one]
 have L:=Gk (w:=w) hu 9998 lx m2 (List.range' 0 n) (fun i ab=>by
  have bI:i<n:=by simpa using ab
  obtain⟨k,x,y,al,ao⟩:=ag i (by omega) (by omega)
  have a1:=bu i (by omega) (by omega)
  have eO:=c2 i (by omega) (by omega)
  rw[al] at a1;rw[ao] at eO
  exact ⟨k,x,y,by rw[Array.getElem?_eq_getElem (by omega),a1.jl],by rw[Array.getElem?_eq_getElem (by omega),eO.jl]⟩)
 have A:=Gl (fun i=>lx[i]?) (fun i=>m2[i]?) aa
  (fun i ab k x cw=>by
    have a1:=bu i ab (by omega)
    rw[cw] at a1
    rw[Array.getElem?_eq_getElem (by omega),a1.jl])
  (fun i ab k y cw=>by
    have a1:=c2 i ab (by omega)
    rw[cw] at a1
    rw[Array.getElem?_eq_getElem (by omega),a1.jl])
 rw[aq] at A
 simp only[A] at L
 simp only[L,Result.andThen_ok]
 cases b<;>simp
end
end Go.Eng
namespace Go.Eng
open Go Go.RowKit
section
variable {P:Program} {base:Nat} {okin:Nat->Prop} {σ:Nat->Option (Nat × Nat)} {h:af} {w:World} {G:Nat->Option I} {F:Nat->I} {a:Act}
theorem Gm (ok:Nat->Prop):∀(xs:List I) (k:IntKind) (x:Int) (cs:List Value) (v:I),jy (fun a b=>if b<a then b else a) (.int k x::xs)=some v->
 xs.length=cs.length->(∀i (h:i<xs.length) (h':i<cs.length),a2 w ok σ xs[i] cs[i])->
 ∃cv,(cs.foldlM Builtin.min2 (.int k x):Sem Value).run P w= .ok cv w/\a2 w ok σ v cv
 | [],k,x,cs,v,h,aw,_=>by
   have:cs= []:=List.eq_nil_of_length_eq_zero (by simpa using aw.symm)
   subst this
   simp only[jy] at h;cases h
   exact ⟨.int k x,by simp,.val _ _ (.int _ _)⟩
 | y::xs,k,x,[],v,h,aw,_=>by simp at aw
 | y::xs,k,x,c::cs,v,h,aw,aH=>by
   have r0:=aH 0 (by simp) (by simp)
   simp only[List.getElem_cons_zero] at r0
   cases y<;>simp only[jy] at h<;>try(cases h;done)
   rename_i k' y
   split at h<;>try(cases h;done)
   rename_i ag
   subst ag
   rw[r0.jl]
   obtain⟨cv,al,ao⟩:=Gm ok xs k (if y<x then y else x) cs v h (by simpa using aw) (fun i ab bI=>by
    have:=aH (i+1) (by simp;omega) (by simp;omega)
    simpa using this)
   exact ⟨cv,by simpa[List.foldlM_cons,Builtin.min2] using al,ao⟩
theorem Gn (ok:Nat->Prop):∀(xs:List I) (k:IntKind) (x:Int) (cs:List Value) (v:I),jy (fun a b=>if a<b then b else a) (.int k x::xs)=some v->
 xs.length=cs.length->(∀i (h:i<xs.length) (h':i<cs.length),a2 w ok σ xs[i] cs[i])->
 ∃cv,(cs.foldlM Builtin.max2 (.int k x):Sem Value).run P w= .ok cv w/\a2 w ok σ v cv
 | [],k,x,cs,v,h,aw,_=>by
   have:cs= []:=List.eq_nil_of_length_eq_zero (by simpa using aw.symm)
   subst this
   simp only[jy] at h;cases h
   exact ⟨.int k x,by simp,.val _ _ (.int _ _)⟩
 | y::xs,k,x,[],v,h,aw,_=>by simp at aw
 | y::xs,k,x,c::cs,v,h,aw,aH=>by
   have r0:=aH 0 (by simp) (by simp)
   simp only[List.getElem_cons_zero] at r0
   cases y<;>simp only[jy] at h<;>try(cases h;done)
   rename_i k' y
   split at h<;>try(cases h;done)
   rename_i ag
   subst ag
   rw[r0.jl]
   obtain⟨cv,al,ao⟩:=Gn ok xs k (if x<y then y else x) cs v h (by simpa using aw) (fun i ab bI=>by
    have:=aH (i+1) (by simp;omega) (by simp;omega)
    simpa using this)
   exact ⟨cv,by simpa[List.foldlM_cons,Builtin.max2] using al,ao⟩
theorem Gp {f:Field} {sz:Nat} (au:iQ P f.type=some sz) (aD:sz≠0) (cb:Addr):(fieldPlace cb f).run P w= .ok (cb.add f.offset) w:=by
 simp[fieldPlace,run_sizeOf au,aD]
theorem Gq {ok:Nat->Prop} {v:I} {cb:Addr} {dO:Nat->Value} (bE:∀j,j<v.cells.length->ok cb.block/\w.cell? (cb.add j)=some (dO j)) (cp:∀j (h:j<v.cells.length),db w ok (v.cells[j]) (dO j))
 {off sz:Nat} {bM:Bool} {cs:List I} {u:I} (J:cut v.cells off sz=some cs) (aF:partOf bM cs=some u):a2 w ok σ (.eK u) (.pointer (some (cb.add off))):=by
 obtain⟨b7,bX,cW⟩:=th J
 have Ps:∀j,j<cs.length->ok (cb.add off).block/\w.cell? ((cb.add off).add j)=some (dO (off+j)):=by
  intro j aA
  obtain⟨jz,dD⟩:=bE (off+j) (by omega)
  refine⟨by rw[Addr.qd];exact jz,?_⟩
  have Pt:cb.spot=none\/0<off+j:=by
   by_cases aD:0<off+j
   · exact .inr aD
   · have pe:off+j=0:=by omega
     rw[pe] at dD
     refine .inl ?_
     cases au:cb.spot with
     | none=>rfl
     | some s=>
       have e:cb.add 0=cb:=by unfold Addr.add;simp
       rw[e] at dD
       unfold World.cell? at dD
       simp only[au,Option.isSome_some,if_true] at dD
       split at dD<;>cases dD
  rw[add_add _ _ _ Pt];exact dD
 have hu:u.cells=cs:=by
  rcases A3 aF with⟨rfl,rfl⟩|⟨rfl,rfl,au⟩
  · rfl
  · cases u<;>first|rfl|simp[I.bW] at au
 refine .eK u _ (fun j=>dO (off+j)) (fun j aA=>Ps j (by rw[<-hu];exact aA)) (fun j aA=>?_)
 have j2:j<cs.length:=by rw[<-hu];exact aA
 have e:u.cells[j]=v.cells[off+j]'(by omega):=by
  have:=cW j j2 (by omega)
  simp only[hu];exact this
 rw[e];exact cp _ _
theorem xI {x:Sem Next} {s:Sem Value} (ae:x=(do pure (.value (<-s)))) {cv:Value} {aN:World} (e:s.run P w= .ok cv aN):x.run P w= .ok (.value cv) aN:=by
 rw[ae];simp[e]
theorem cn.sized (H:cn base okin σ h w) {id b sz s:Nat} (au:σ id=some (b,sz)) (aa:sizedB s (h.cells id)=true):sz=s:=by
 cases J:h.cells id with
 | none=>rw[J] at aa;cases aa
 | some blk=>
   rw[J] at aa
   simp only[sizedB,Bool.and_eq_true,decide_eq_true_eq] at aa
   obtain⟨jS,fG,arr,ty,al,_,aV⟩:=H.blk id blk J
   rw[au] at al;cases al
   have U:=(aV 0 aa.1).1
   have h2:=xA aa.2 _ (List.getElem_mem aa.1)
   omega
theorem Pu {v:Value} (h:qc v=some (.sl [] true)):v= .slice none 0 0:=by
 unfold qc at h
 split at h
 · obtain⟨as,_,e⟩:=Option.map_eq_some_iff.1 h;cases e
 · unfold qb at h
   split at h<;>first|rfl|cases h
theorem Pv {op:BinOp} {t e:TypeId} {x y:Operand} {A:Option Addr} {l c:Nat} (hu:P.underlying t=some (.slice e)) (a4:A.isSome=true) (neg:Bool) (ay:op=if neg then .neq else .eql):
 (do eqGuard op t x y (.slice A l c) (.slice none 0 0);binOp op t (.slice A l c) (.slice none 0 0):Sem Value).run P w= .ok (.bool neg) w:=by
 obtain⟨cb,rfl⟩:=Option.isSome_iff_exists.1 a4
 have al:(Op.equal t (.slice (some cb) l c) (.slice none 0 0)).run P w= .ok false w:=by
  unfold Op.equal Op.maxDepth Op.equalIn
  simp[run_underlying hu]
 cases neg
 · simp only[Bool.false_eq_true,if_false] at ay
   subst ay
   have ao:(binOp .eql t (.slice (some cb) l c) (.slice none 0 0)).run P w= .ok (.bool false) w:=by
    show (do pure (.bool (<-Op.equal t (.slice (some cb) l c) (.slice none 0 0))):Sem Value).run P w=_
    simp[al]
   simp[eqGuard,ao]
 · simp only[if_true] at ay
   subst ay
   have ao:(binOp .neq t (.slice (some cb) l c) (.slice none 0 0)).run P w= .ok (.bool true) w:=by
    show (do pure (.bool !(<-Op.equal t (.slice (some cb) l c) (.slice none 0 0))):Sem Value).run P w=_
    simp[al]
   simp[eqGuard,ao]
theorem Gr (H:cn base okin σ h w) (br:jV G (bk base okin σ h) σ w F a) {aX r:Nat} {o:Oper} {op:BinOp} {t e Gs:TypeId} {x y:Operand} {kf:aQ} (cq:o.op= .binOp op t x y Gs) (hu:P.underlying t=some (.slice e)) (U:dK x=some kf) (h2:dK y=some (.c (.sl [] true)))
 (neg:Bool) (ay:op=if neg then .neq else .eql) {v:I} {h':af} {c:dy} (he:evalOp aX r (aQ.ev G F) h (.isnil neg kf)=some (v,h',c)):ti base okin σ h w r v h' ((execOp a.eval o).run P w):=by
 have aO:a.eval y= .slice none 0 0:=by
  cases y with
  | const k=>
    obtain⟨z,ar,e⟩:=Option.map_eq_some_iff.1 h2
    cases e
    exact Pu ar
  | _=>cases h2
 have rx:=br.dA U
 have fin:∀A l dt,a.eval x= .slice A l dt->A.isSome=true->ti base okin σ h w r (.bool neg) h ((execOp a.eval o).run P w):=by
  intro A l dt ex a4
  have ao:=Pv (P:=P) (w:=w) (x:=x) (y:=y) (l:=l) (c:=dt) hu a4 neg ay
  rw[<-ex,<-aO] at ao
  exact .pure H (cv:= .bool neg) (xI (by simp only[execOp,cq]) ao) (.val _ _ (.bool _))
 simp only[evalOp] at he
 split at he<;>try(cases he;done)
 · rename_i xs ex av
   split at he<;>try(cases he;done)
   rename_i rH
   cases he
   rw[av] at rx
   have aH:=rx.qf
   generalize kh:a.eval x=i_ at aH
   cases aH with
   | sl _ _ A c _ _ _ _ _ _ b9 _=>exact fin _ _ _ kh (b9 rH)
 · rename_i id off len cap av
   split at he<;>try(cases he;done)
   rename_i rH
   cases he
   rw[av] at rx
   obtain⟨A,c,b,sz,i',_,cc,ac8,ed⟩:=rx.qg
   obtain⟨rfl,_⟩:=ed (by omega)
   exact fin _ _ _ i' rfl
theorem Gt:∀(m:List (Int × FuncId)) (n:Int) (es:List MapEntry) (i:Nat),es.length=m.length->(∀j (h:j<m.length) (h':j<es.length),es[j].key= .int .i64 m[j].1/\es[j].val= .func (.func m[j].2) #[] #[])->
 ∃r,Instr.findNow (.int .i64) (.int .i64 n) es i=some r/\r.map (·.2)=(m.lookup n).map fun f=>Value.func (.func f) #[] #[]
 | [],n,[],i,_,_=>⟨none,rfl,rfl⟩
 | (k,f)::m,n,e::es,i,aw,ae=>by
   obtain⟨al,ao⟩:=ae 0 (by simp) (by simp)
   simp only[List.getElem_cons_zero] at al ao
   unfold Instr.findNow
   rw[al]
   by_cases ag:n=k
   · subst ag
     refine⟨some (i,e.val),by simp[Instr.sameNow],by simp[ao]⟩
   · obtain⟨r,U,h2⟩:=Gt m n es (i+1) (by simpa using aw) (fun j h h'=>by have:=ae (j+1) (by simp;omega) (by simp;omega);simp only[List.getElem_cons_succ] at this;exact this)
     have aa:(n == k)=false:=by simpa using ag
     refine⟨r,by simp[Instr.sameNow,aa,U],?_⟩
     rw[h2,List.lookup_cons]
     simp[aa]
 | [],_,_::_,_,aw,_=>by simp at aw
 | _::_,_,[],_,aw,_=>by simp at aw
theorem Pw (H:cn base okin σ h w) (br:jV G (bk base okin σ h) σ w F a) {aX r:Nat} (aH:σ r=none) (o:Oper) {lK:jQ} (J:fF P o.op=some lK)
 {v:I} {h':af} {c:dy} (he:evalOp aX r (aQ.ev G F) h lK=some (v,h',c)):
 ti base okin σ h w r v h' ((execOp a.eval o).run P w):=by
 cases cq:o.op<;>rw[cq] at J<;>try(simp only[fF] at J;cases J;done)
 case panic x=>
  simp only[fF] at J;cases J
  simp only[evalOp,aQ.ev] at he;cases he
 case move x=>
  obtain⟨y,aO,rfl⟩:=Option.map_eq_some_iff.1 J
  simp only[evalOp] at he;cases he
  exact .pure H (by simp[execOp,cq]) (br.dA aO)
 case assign x=>
  obtain⟨y,aO,rfl⟩:=Option.map_eq_some_iff.1 J
  simp only[evalOp] at he;cases he
  exact .pure H (by simp[execOp,cq]) (br.dA aO)
 case pick dt x y=>
  simp only[fF] at J
  split at J<;>try(cases J;done)
  rename_i c' kf n9 U h2 az
  cases J
  simp only[evalOp] at he
  split at he<;>try(cases he;done)
  rename_i t aJ
  cases he
  have aa:=br.dA U
  rw[aJ] at aa
  refine .pure H (cv:=if t then a.eval x else a.eval y) (by simp[execOp,cq,aa.qe,asBool]) ?_
  cases t
  · exact br.dA az
  · exact br.dA h2
 case alloc e=>
  obtain⟨z,ar,rfl⟩:=Option.map_eq_some_iff.1 J
  simp only[evalOp] at he;cases he
  obtain⟨ax,dE,iL,xy,Px,_⟩:=tp (P:=P) (w:=w) (σ:=σ) (ok:=bk base okin σ h) ar
  obtain⟨ba,aN,al,ao,aV,bJ,eW⟩:=F1 (P:=P) H aH (t:=e) (a2.val _ _ Px) xy
  exact ⟨ba,_,aN,.inl (by simp[execOp,cq,Instr.alloc,dE,al]),ao,aV,bJ,eW⟩
 case box e x=>
  obtain⟨y,aO,rfl⟩:=Option.map_eq_some_iff.1 J
  simp only[evalOp] at he
  split at he<;>try(cases he;done)
  rename_i au
  cases he
  obtain⟨ba,aN,al,ao,aV,bJ,eW⟩:=F1 (P:=P) H aH (t:=e) (br.dA aO) au
  exact ⟨ba,_,aN,.inl (by simp[execOp,cq,Instr.box,al]),ao,aV,bJ,eW⟩
 case build t ps=>
  obtain⟨rfl,cv,al,ao⟩:=OZ br J he
  exact .pure H (by simp[execOp,cq] at al|-;simp[al]) ao
 case buildSlice t n ps=>
  obtain⟨rfl,cv,aN,al,ao,aV,bJ⟩:=O5 H br J he
  exact ⟨σ,cv,aN,.inl (by simp[execOp,cq] at al|-;simp[al]),ao,aV,bJ,fun _ _=>rfl⟩
 case load t x=>
  simp only[fF] at J
  split at J<;>try(cases J;done)
  rename_i bM s y U h2 az
  split at J<;>try(cases J;done)
  rename_i aT
  cases J
  obtain⟨rfl,cv,al,ao⟩:=OO (P:=P) H U h2 aT (br.dA az) he
  exact .pure H (by simp[execOp,cq,al]) ao
 case store t x y=>
  simp only[fF] at J
  split at J<;>try(cases J;done)
  rename_i s kf n9 U h2 az
  cases J
  obtain⟨rfl,aN,al,ao,aV⟩:=OP (P:=P) H U (br.dA h2) (br.dA az) he
  exact ⟨σ,undef,aN,.inr ⟨by simp[execOp,cq,al],rfl⟩,ao,aV,.undef _,fun _ _=>rfl⟩
 case binOp op t x y Gs=>
  simp only[fF] at J
  split at J<;>try(cases J;done)
  rename_i kf n9 U h2
  split at J<;>try(cases J;done)
  · cases J
    simp only[evalOp] at he
    obtain⟨u,av,he⟩:=Option.map_eq_some_iff.1 he
    cases he
    obtain⟨cv,al,ao⟩:=A' (P:=P) 0 op t x y (br.dA U) (br.dA h2) av (fun e=>absurd e (by decide))
    exact .pure H (xI (by simp only[execOp,cq]) al) ao
  · rename_i hu
    cases J
    simp only[evalOp] at he
    obtain⟨u,av,he⟩:=Option.map_eq_some_iff.1 he
    cases he
    obtain⟨cv,al,ao⟩:=A' (P:=P) 1 op t x y (br.dA U) (br.dA h2) av (fun _=>hu)
    exact .pure H (xI (by simp only[execOp,cq]) al) ao
  · cases J
    simp only[evalOp] at he
    obtain⟨u,av,he⟩:=Option.map_eq_some_iff.1 he
    cases he
    obtain⟨cv,al,ao⟩:=A' (P:=P) 2 op t x y (br.dA U) (br.dA h2) av (fun e=>absurd e (by decide))
    exact .pure H (xI (by simp only[execOp,cq]) al) ao
  · rename_i n e hu
    split at J<;>try(cases J;done)
    rename_i k Gu n'
    have Py:∃d,P.depth=d+1+1:=⟨2*(P.types.size+Made.depth),rfl⟩
    have Pz:P.eqGuardType P.depth t=false:=by
     obtain⟨d,a_⟩:=Py
     rw[a_]
     simp[Program.eqGuardType,hu,Gu]
    have main:∀neg,jQ.eqA neg n kf n9=lK->(op=if neg then .neq else .eql)->ti base okin σ h w r v h' ((execOp a.eval o).run P w):=by
     rintro neg rfl xJ
     simp only[evalOp] at he
     split at he<;>try(cases he;done)
     rename_i xs ys ae aO
     split at he<;>try(cases he;done)
     rename_i aq
     obtain⟨b,aa,he⟩:=Option.map_eq_some_iff.1 he
     cases he
     have rx:=br.dA U
     have ry:=br.dA h2
     rw[ae] at rx;rw[aO] at ry
     obtain⟨al,lx,m2,ex,rI⟩:=Pr (P:=P) hu n' Gu rx ry aa aq
     rw[ex,rI] at al
     have aW:=run_eqGuard_agg w op t x y lx m2 Pz
     refine .pure H (cv:= .bool (b != neg)) ?_ (.val _ _ (.bool _))
     cases neg
     · simp only[Bool.false_eq_true,if_false] at xJ
       subst xJ
       have ao:(binOp .eql t (.agg lx) (.agg m2)).run P w= .ok (.bool b) w:=by
        show (do pure (.bool (<-Op.equal t (.agg lx) (.agg m2))):Sem Value).run P w=_
        simp[al]
       simp[execOp,cq,ex,rI,aW,ao]
     · simp only[if_true] at xJ
       subst xJ
       have ao:(binOp .neq t (.agg lx) (.agg m2)).run P w= .ok (.bool !b) w:=by
        show (do pure (.bool !(<-Op.equal t (.agg lx) (.agg m2))):Sem Value).run P w=_
        simp[al]
       simp[execOp,cq,ex,rI,aW,ao]
    split at J
    · rename_i ay
      cases J
      exact main false rfl (by simpa using ay)
    · split at J<;>try(cases J;done)
      rename_i ay
      cases J
      exact main true rfl (by simpa using ay)
  · rename_i e hu
    split at J<;>try(cases J;done)
    split at J
    · rename_i ay
      cases J
      exact Gr H br cq hu U h2 false (by simpa using ay) he
    · split at J<;>try(cases J;done)
      rename_i ay
      cases J
      exact Gr H br cq hu U h2 true (by simpa using ay) he
 case lookup t x i ok=>
  cases ok with
  | false=>simp only[fF] at J;cases J
  | true=>
    simp only[fF] at J
    split at J<;>try(cases J;done)
    rename_i k e hu
    split at J<;>try(cases J;done)
    rename_i kf iK ag ar U h2
    cases J
    simp only[evalOp] at he
    split at he<;>try(cases he;done)
    rename_i m n ae ab
    cases he
    have rx:=br.dA U
    have ob:=br.dA h2
    rw[ae] at rx;rw[ab] at ob
    have dn:=rx.FH
    generalize kh:a.eval x=i_ at dn
    cases dn with
    | mp _ ky es clock jz dD ns vr=>
      obtain⟨ax,dE,iL,_⟩:=FQ (w:=w) ar
      have PA:ax= .nilFunc:=by
       unfold qc at iL
       split at iL
       · obtain⟨as,_,e⟩:=Option.map_eq_some_iff.1 iL;cases e
       · unfold qb at iL
         split at iL<;>first|rfl|cases iL
      subst PA
      obtain⟨q,f1,f2⟩:=Gt m n es.toList 0 (by simpa using ns) (fun j h h'=>by simpa using vr j h (by simpa using h'))
      have Gv:=MapKept.run_checkKey (w:=w) ag (k:= .int .i64 n) (by simp[MapKept.IsKey]) es.isEmpty 9999
      have Gw:=MapKept.run_findKey (w:=w) ag f1
      have rJ:=MapKept.run_getObj_map (P:=P) dD
      cases aG:m.lookup n with
      | none=>
        rw[aG] at f2
        have qm:q=none:=by simpa using f2
        subst qm
        refine .pure H (cv:= .tuple #[.nilFunc,.bool false]) ?_ (.bo _ _ rfl fun i ab bI=>?_)
        · simp[execOp,cq,Instr.lookup,run_underlying hu,kh,ob.jl,rJ,Gv,Gw,dE]
        · match i,ab with
          | 0,_=>exact .val _ _ .nilfn
          | 1,_=>exact .val _ _ (.bool _)
      | some f=>
        rw[aG] at f2
        obtain⟨⟨ac9,ada⟩,rfl,f3⟩:=Option.map_eq_some_iff.1 f2
        simp only at f3
        subst f3
        refine .pure H (cv:= .tuple #[.func (.func f) #[] #[],.bool true]) ?_ (.bo _ _ rfl fun i ab bI=>?_)
        · simp[execOp,cq,Instr.lookup,run_underlying hu,kh,ob.jl,rJ,Gv,Gw]
        · match i,ab with
          | 0,_=>exact .fn f [] [] #[] #[] rfl rfl (fun i h=>absurd h (by simp)) (fun i h=>absurd h (by simp))
          | 1,_=>exact .val _ _ (.bool _)
 case unOp op t x=>
  obtain⟨y,aO,rfl⟩:=Option.map_eq_some_iff.1 J
  simp only[evalOp] at he
  obtain⟨u,av,he⟩:=Option.map_eq_some_iff.1 he
  cases he
  obtain⟨cv,al,ao⟩:=OV (P:=P) op (br.dA aO) av
  exact .pure H (by simp[execOp,cq,al]) ao
 case convert s d x=>
  simp only[fF] at J
  split at J<;>try(cases J;done)
  rename_i vt k y U h2 az
  cases J
  simp only[evalOp] at he
  split at he<;>try(cases he;done)
  rename_i k' n ae
  cases he
  have rx:=br.dA az
  rw[ae] at rx
  refine .pure H (cv:= .int k (k.wrap n)) ?_ (.val _ _ (.int _ _))
  simp[execOp,cq,rx.jl,convert,run_underlying U,run_underlying h2,Conv.intToInt]
 case makeFunc f first caps=>
  cases f with
  | func f=>
    simp only[fF] at J
    split at J<;>try(cases J;done)
    rename_i x y U h2
    cases J
    simp only[evalOp] at he;cases he
    obtain⟨cc,bu⟩:=rz br U
    obtain⟨ed,c2⟩:=rz br h2
    refine .pure H (cv:= .func (.func f) (first.map a.eval) (caps.map a.eval)) (by simp[execOp,cq,Instr.makeFunc]) ?_
    refine .fn f _ _ _ _ (by simp[cc]) (by simp[ed]) (fun i ab bI=>?_) (fun i ab bI=>?_)
    · have q:=bu i (by simpa using ab) (by simpa using bI)
      rw[Array.getElem_toList] at q
      simpa using q
    · have q:=c2 i (by simpa using ab) (by simpa using bI)
      rw[Array.getElem_toList] at q
      simpa using q
  | _=>simp only[fF] at J;cases J
 case makeSlice t x y=>
  obtain⟨ba,cv,aN,al,ao,aV,bJ,eW⟩:=O7 H br aH J he
  exact ⟨ba,cv,aN,.inl (by simp[execOp,cq,al]),ao,aV,bJ,eW⟩
 case slice t x b' ab jR=>
  simp only[fF] at J
  split at J<;>try(cases J;done)
  rename_i e hu
  split at J<;>try(cases J;done)
  rename_i s y tl bI kg U h2 az aT b9
  split at J<;>try(cases J;done)
  rename_i tm
  have tm:(kg.isSome&&bI.isNone)=false:=by simpa only[Bool.not_eq_true] using tm
  cases J
  have rx:=br.dA h2
  simp only[evalOp] at he
  split at he
  · rename_i id off len cap ae
    rw[ae] at rx
    split at he<;>try(cases he;done)
    rename_i l u m b1 dL kx
    split at he<;>try(cases he;done)
    rename_i aG
    obtain⟨c8,c_,h5,jB⟩:=aG
    cases he
    obtain⟨A,c,b,sz,i',bE,cp,fv,jW⟩:=rx.qg
    have B:=FW (P:=P) br az aT b9 tm len cap c fv (fun _=>cp) b1 dL kx c8 c_ h5 true
    have PB:m<=if kg.isSome then m else c:=by split<;>omega
    have adb:(if kg.isSome then m else c)<=c:=by split<;>omega
    refine .pure H (cv:= .slice (if (if kg.isSome then m else c)=l then A else A.map (·.add (l*s))) (u - l) ((if kg.isSome then m else c) - l)) ?_ ?_
    · simp only[execOp,cq,Instr.sliceAt,Instr.slice,Sem.run_bind,run_underlying hu,Result.andThen_ok,i',B,run_sizeOf U]
      simp
    · refine .ref id (off+l) (u - l) (m - l) _ _ b sz bE (by omega) (by omega) (fun rH=>?_)
      obtain⟨rfl,kz⟩:=jW (by omega)
      rw[if_neg (by omega)]
      refine⟨?_,Nat.le_trans (Nat.mul_le_mul_right _ (by omega)) kz⟩
      rcases jB with rfl|jB
      · simp[Addr.add]
      · have:=H.sized bE jB
        subst this
        simp[o9,Nat.add_mul]
  · rename_i xs ex ae
    rw[ae] at rx
    split at he<;>try(cases he;done)
    rename_i l u m b1 dL kx
    split at he<;>try(cases he;done)
    rename_i aG
    obtain⟨c8,c_,h5,jB⟩:=aG
    cases he
    have aH:=rx.qf
    generalize kh:a.eval x=i_ at aH rx
    cases aH with
    | sl _ _ A c fG dO bx bZ cX mb ki mA=>
      have B:=FW (P:=P) br az aT b9 tm xs.length xs.length c bx (fun _=>bx) b1 dL kx c8 c_ h5 true
      have PB:m<=if kg.isSome then m else c:=by split<;>omega
      have hlen:((xs.drop l).take (u - l)).length=u - l:=by simp;omega
      refine .pure H (cv:= .slice (if (if kg.isSome then m else c)=l then A else A.map (·.add (l*s))) (u - l) ((if kg.isSome then m else c) - l)) ?_ ?_
      · simp only[execOp,cq,Instr.sliceAt,Instr.slice,Sem.run_bind,run_underlying hu,Result.andThen_ok,kh,B,run_sizeOf U]
        simp
      · refine .val _ _ ?_
        have kv:∀i (ab:i<u - l),((xs.drop l).take (u - l))[i]'(by rw[hlen];exact ab)=xs[l+i]'(by omega):=by intro i ab;simp
        have R:=db.sl (w:=w) (ok:=bk base okin σ h) ((xs.drop l).take (u - l)) ((kg.isSome||ex)&&m == u) (if (if kg.isSome then m else c)=l then A else A.map (·.add (l*s))) ((if kg.isSome then m else c) - l) fG (fun i j=>dO (l+i) j)
         (by rw[hlen];omega) (fun hex=>by
           rw[hlen]
           simp only[Bool.and_eq_true,Bool.or_eq_true,beq_iff_eq] at hex
           obtain⟨ei,rfl⟩:=hex
           rcases ei with ei|ei
           · rw[if_pos ei]
           · have J:=bZ ei
             by_cases hm:kg.isSome=true
             · rw[if_pos hm]
             · rw[if_neg hm]
               have k8:kg=none:=by cases kg<;>simp_all
               have:m=xs.length:=by rw[k8] at kx;cases kx;rfl
               omega)
         (fun i ab=>by rw[kv i (by rw[hlen] at ab;exact ab)];exact cX _ _)
         (fun i j ab aA=>by
           rw[hlen] at ab
           obtain⟨cb,al,ao,aV⟩:=mb (l+i) j (by omega) aA
           rw[if_neg (by omega),al]
           rcases jB with rfl|jB
           · refine⟨cb,by simp[Addr.add],ao,?_⟩
             simpa using aV
           · have rC:fG=s:=by
              have rK:=cX (l+i) (by omega)
              have ade:=xA jB _ (List.getElem_mem (show l+i<xs.length by omega))
              omega
             subst rC
             refine⟨cb.add (l*fG),rfl,by rw[Addr.qd];exact ao,?_⟩
             rw[add_add]
             · rw[<-Nat.add_assoc,<-Nat.add_mul];exact aV
             · by_cases aD:0<l*fG+(i*fG+j)
               · exact .inr aD
               · have pe:(l+i)*fG+j=0:=by rw[Nat.add_mul];omega
                 rw[pe] at aV
                 refine .inl ?_
                 cases au:cb.spot with
                 | none=>rfl
                 | some sp=>
                   have e:cb.add 0=cb:=by unfold Addr.add;simp
                   rw[e] at aV
                   unfold World.cell? at aV
                   simp only[au,Option.isSome_some,if_true] at aV
                   split at aV<;>cases aV)
         (fun rH=>by
           rw[hlen] at rH
           rw[if_neg (by omega)]
           have:=ki (by omega)
           simpa using this)
         (fun i ab j aA=>by
           rw[hlen] at ab
           have:=kv i ab
           simp only[this]
           exact mA _ _ j _)
        rw[hlen] at R
        exact R
  · cases he
 case fieldAddr s x f=>
  simp only[fF] at J
  split at J<;>try(cases J;done)
  rename_i bT hu
  split at J<;>try(cases J;done)
  rename_i fd xK
  split at J<;>try(cases J;done)
  rename_i bM sz y U h2 az
  split at J<;>try(cases J;done)
  rename_i aT
  cases J
  have rx:=br.dA az
  simp only[evalOp] at he
  split at he
  · rename_i u ae
    rw[ae] at rx
    obtain⟨cb,dO,i',bE,cp⟩:=rx.xu
    obtain⟨cs,oc,he⟩:=Option.bind_eq_some_iff.1 he
    obtain⟨p,aF,he⟩:=Option.map_eq_some_iff.1 he
    cases he
    refine .pure H (cv:= .pointer (some (cb.add fd.offset))) ?_ (Gq bE cp oc aF)
    simp[execOp,cq,Instr.fieldAt,run_underlying hu,xK,i',Instr.sureAddr,Gp h2 aT]
  · rename_i id idx cu ae
    rw[ae] at rx
    cases he
    obtain⟨b,bQ,i',bE⟩:=rx.vb
    have:=a2.ptr (w:=w) (ok:=bk base okin σ h) (σ:=σ) id idx (cu+fd.offset) b bQ bE
    refine .pure H ?_ this
    simp[execOp,cq,Instr.fieldAt,run_underlying hu,xK,i',Instr.sureAddr,Gp h2 aT,o9,Nat.add_assoc]
  · cases he
 case field s x f=>
  simp only[fF] at J
  split at J<;>try(cases J;done)
  rename_i bT hu
  split at J<;>try(cases J;done)
  rename_i fd xK
  split at J<;>try(cases J;done)
  rename_i bM sz y U h2 az
  split at J<;>try(cases J;done)
  rename_i aT
  cases J
  simp only[evalOp] at he
  split at he<;>try(cases he;done)
  rename_i cs ae
  obtain⟨jk,oc,he⟩:=Option.bind_eq_some_iff.1 he
  obtain⟨u,aF,he⟩:=Option.map_eq_some_iff.1 he
  cases he
  have rx:=br.dA az
  rw[ae] at rx
  obtain⟨vs,ev,cc,bu⟩:=rx.tg
  obtain⟨cv,al,ao⟩:=FU (P:=P) U h2 aT cc bu oc aF
  exact .pure H (by simp[execOp,cq,Instr.field,run_underlying hu,xK,ev,asAgg,al]) ao
 case indexAddr t x i=>
  simp only[fF] at J
  split at J<;>try(cases J;done)
  · rename_i e hu
    split at J<;>try(cases J;done)
    rename_i s y j U h2 az
    cases J
    have rx:=br.dA h2
    have jq:=br.dA az
    simp only[evalOp] at he
    split at he
    · rename_i xs ex k n ae aA
      rw[ae] at rx;rw[aA] at jq
      split at he<;>try(cases he;done)
      rename_i aq
      obtain⟨el,kv,he⟩:=Option.bind_eq_some_iff.1 he
      split at he<;>try(cases he;done)
      rename_i c7
      cases he
      obtain⟨ab,rfl⟩:=List.getElem?_eq_some_iff.1 kv
      have aH:=rx.qf
      generalize kh:a.eval x=i_ at aH rx
      cases aH with
      | sl _ _ A c fG dO bx bZ cX mb ki mA=>
        have a4:=ki (by omega)
        obtain⟨cb,rfl⟩:=Option.isSome_iff_exists.1 a4
        have es:fG=s:=by have:=cX _ ab;omega
        subst es
        have bq:n<(xs.length:Int):=by omega
        refine .pure H (cv:= .pointer (some (cb.add (n.toNat*fG)))) ?_ ?_
        · simp[execOp,cq,Instr.indexAt,jq.jl,asIntOf,run_underlying hu,kh,aq,bq,run_sizeOf U]
        · refine .eK _ _ (fun mB=>dO n.toNat mB) (fun mB Gx=>?_) (fun mB Gx=>mA _ ab mB Gx)
          obtain⟨Pa,al,ao,aV⟩:=mb n.toNat mB ab (by omega)
          cases al
          refine⟨by rw[Addr.qd];exact ao,?_⟩
          rw[add_add]
          · exact aV
          · by_cases aD:0<n.toNat*fG+mB
            · exact .inr aD
            · have pe:n.toNat*fG+mB=0:=by omega
              rw[pe] at aV
              refine .inl ?_
              cases au:cb.spot with
              | none=>rfl
              | some sp=>
                have e:cb.add 0=cb:=by unfold Addr.add;simp
                rw[e] at aV
                unfold World.cell? at aV
                simp only[au,Option.isSome_some,if_true] at aV
                split at aV<;>cases aV
    · rename_i id off len cap k n ae aA
      rw[ae] at rx;rw[aA] at jq
      split at he<;>try(cases he;done)
      rename_i aq
      cases he
      obtain⟨A,c,b,sz,i',bE,cp,fv,jW⟩:=rx.qg
      obtain⟨rfl,_⟩:=jW (by omega)
      have:=H.sized bE aq.2.2
      subst this
      have R:=a2.ptr (w:=w) (ok:=bk base okin σ h) (σ:=σ) id (off+n.toNat) 0 b sz bE
      refine .pure H ?_ R
      simp[execOp,cq,Instr.indexAt,jq.jl,asIntOf,run_underlying hu,i',aq.1,aq.2.1,run_sizeOf U,o9,Nat.add_mul]
    · cases he
  · rename_i n e hu
    split at J<;>try(cases J;done)
    rename_i bM s y j U h2 az aT
    cases J
    have rx:=br.dA az
    have jq:=br.dA aT
    simp only[evalOp] at he
    split at he
    · rename_i u k mB ae aA
      rw[ae] at rx;rw[aA] at jq
      split at he<;>try(cases he;done)
      rename_i aq
      obtain⟨cs,oc,he⟩:=Option.bind_eq_some_iff.1 he
      obtain⟨p,aF,he⟩:=Option.map_eq_some_iff.1 he
      cases he
      obtain⟨cb,dO,i',bE,cp⟩:=rx.xu
      refine .pure H (cv:= .pointer (some (cb.add (mB.toNat*s)))) ?_ (Gq bE cp oc aF)
      simp[execOp,cq,Instr.indexAt,jq.jl,asIntOf,run_underlying hu,i',Instr.sureAddr,aq.1,aq.2,run_sizeOf h2]
    · rename_i id idx cu k mB ae aA
      rw[ae] at rx;rw[aA] at jq
      split at he<;>try(cases he;done)
      rename_i aq
      cases he
      obtain⟨b,bQ,i',bE⟩:=rx.vb
      have:=a2.ptr (w:=w) (ok:=bk base okin σ h) (σ:=σ) id idx (cu+mB.toNat*s) b bQ bE
      refine .pure H ?_ this
      simp[execOp,cq,Instr.indexAt,jq.jl,asIntOf,run_underlying hu,i',Instr.sureAddr,aq.1,aq.2,run_sizeOf h2,o9,Nat.add_assoc]
    · cases he
 case index t x i=>
  simp only[fF] at J
  split at J<;>try(cases J;done)
  · rename_i n e hu
    split at J<;>try(cases J;done)
    rename_i bM s y j U h2 az aT
    split at J<;>try(cases J;done)
    rename_i b9
    cases J
    have rx:=br.dA az
    have jq:=br.dA aT
    simp only[evalOp] at he
    split at he<;>try(cases he;done)
    rename_i cs k mB ae aA
    rw[ae] at rx;rw[aA] at jq
    split at he<;>try(cases he;done)
    rename_i aq
    obtain⟨jk,oc,he⟩:=Option.bind_eq_some_iff.1 he
    obtain⟨u,aF,he⟩:=Option.map_eq_some_iff.1 he
    cases he
    obtain⟨vs,ev,cc,bu⟩:=rx.tg
    obtain⟨cv,al,ao⟩:=FU (P:=P) U h2 b9 cc bu oc aF
    exact .pure H (by simp[execOp,cq,Instr.index,jq.jl,asIntOf,run_underlying hu,ev,aq.1,aq.2,run_sizeOf h2,al]) ao
  · rename_i hu
    split at J<;>try(cases J;done)
    rename_i y j U h2
    cases J
    have rx:=br.dA U
    have jq:=br.dA h2
    simp only[evalOp] at he
    split at he<;>try(cases he;done)
    rename_i str k mB ae aA
    rw[ae] at rx;rw[aA] at jq
    split at he<;>try(cases he;done)
    rename_i aq
    obtain⟨Gy,aa,he⟩:=Option.map_eq_some_iff.1 he
    cases he
    refine .pure H (cv:= .int .u8 Gy.toNat) ?_ (.val _ _ (.int _ _))
    simp[execOp,cq,Instr.index,jq.jl,asIntOf,run_underlying hu,rx.va,aq,aa]
 case extract x i=>
  obtain⟨y,aO,rfl⟩:=Option.map_eq_some_iff.1 J
  simp only[evalOp] at he
  split at he<;>try(cases he;done)
  rename_i vs ae
  obtain⟨u,hu,he⟩:=Option.map_eq_some_iff.1 he
  cases he
  have rx:=br.dA aO
  rw[ae] at rx
  obtain⟨cs,ev,cc,bu⟩:=rx.FJ
  obtain⟨ab,rfl⟩:=List.getElem?_eq_some_iff.1 hu
  have bq:i<cs.size:=by omega
  exact .pure H (by simp[execOp,cq,Instr.extract,ev,bq]) (bu i ab bq)
 case call Br=>
  obtain⟨callee,args,argTypes⟩:=Br
  cases callee with
  | value f=>
    simp only[fF] at J
    split at J<;>try(cases J;done)
    cases J
    simp only[evalOp] at he;cases he
  | invoke _ _=>simp only[fF] at J;cases J
  | builtin b=>
    cases b<;>try(simp only[fF] at J;cases J;done)
    case append=>
     obtain⟨ba,cv,aN,al,ao,aV,bJ,eW⟩:=Pe (ty:=o.type) H br aH J he
     exact ⟨ba,cv,aN,.inl (by simp[execOp,cq,resolve,invoke,builtin,al]),ao,aV,bJ,eW⟩
    case len=>
     simp only[fF] at J
     split at J<;>try(cases J;done)
     rename_i t X aJ fu
     have rF:args= #[X]:=by rw[<-Array.toList_inj];exact fu
     subst rF
     split at J<;>try(cases J;done)
     · rename_i e x hu ae
       cases J
       have rx:=br.dA ae
       simp only[evalOp] at he
       split at he
       · rename_i xs ex av
         simp only[if_true] at he
         cases he
         rw[av] at rx
         have aH:=rx.qf
         generalize kh:a.eval X=i_ at aH rx
         cases aH with
         | sl _ _ A c _ _ _ _ _ _ _ _=>
           refine .pure H (cv:= .int .i64 xs.length) ?_ (.val _ _ (.int _ _))
           simp[execOp,cq,resolve,invoke,builtin,Builtin.len_,aJ,run_underlying hu,kh,goInt]
       · rename_i id off len cap av
         simp only[if_true] at he
         cases he
         rw[av] at rx
         obtain⟨A,c,b,sz,i',_⟩:=rx.qg
         refine .pure H (cv:= .int .i64 len) ?_ (.val _ _ (.int _ _))
         simp[execOp,cq,resolve,invoke,builtin,Builtin.len_,aJ,run_underlying hu,i',goInt]
       · simp only[Bool.false_eq_true,if_false] at he;cases he
       · cases he
     · rename_i x hu ae
       cases J
       have rx:=br.dA ae
       simp only[evalOp] at he
       split at he
       · simp only[Bool.true_eq_false,if_false] at he;cases he
       · simp only[Bool.true_eq_false,if_false] at he;cases he
       · rename_i s av
         simp only[if_true] at he
         cases he
         rw[av] at rx
         refine .pure H (cv:= .int .i64 s.size) ?_ (.val _ _ (.int _ _))
         simp[execOp,cq,resolve,invoke,builtin,Builtin.len_,aJ,run_underlying hu,rx.va,goInt]
       · cases he
    case min=>
     obtain⟨xs,nr,rfl⟩:=Option.map_eq_some_iff.1 J
     obtain⟨cc,bu⟩:=rz br nr
     simp only[evalOp] at he
     obtain⟨u,hu,he⟩:=Option.map_eq_some_iff.1 he
     cases he
     cases xs with
     | nil=>simp[jy] at hu
     | cons x xs=>
       cases fu:args.toList with
       | nil=>rw[fu] at cc;simp at cc
       | cons X Bs=>
         rw[fu] at cc
         have r0:=bu 0 (by simp) (by simp[fu])
         simp only[fu,List.getElem_cons_zero] at r0
         simp only[List.map_cons] at hu
         cases ae:x.ev G F<;>rw[ae] at hu<;>try(simp[jy] at hu;done)
         rename_i k n
         rw[ae] at r0
         obtain⟨cv,al,ao⟩:=Gm (P:=P) (w:=w) (σ:=σ) (bk base okin σ h) (xs.map (aQ.ev G F)) k n (Bs.map a.eval) v hu (by simpa using cc) (fun i ab bI=>by
          have:=bu (i+1) (by simpa using ab) (by simpa[fu] using bI)
          simpa[fu] using this)
         refine .pure H ?_ ao
         simp[execOp,cq,resolve,invoke,builtin,Builtin.min_,fu,r0.jl,al]
    case max=>
     obtain⟨xs,nr,rfl⟩:=Option.map_eq_some_iff.1 J
     obtain⟨cc,bu⟩:=rz br nr
     simp only[evalOp] at he
     obtain⟨u,hu,he⟩:=Option.map_eq_some_iff.1 he
     cases he
     cases xs with
     | nil=>simp[jy] at hu
     | cons x xs=>
       cases fu:args.toList with
       | nil=>rw[fu] at cc;simp at cc
       | cons X Bs=>
         rw[fu] at cc
         have r0:=bu 0 (by simp) (by simp[fu])
         simp only[fu,List.getElem_cons_zero] at r0
         simp only[List.map_cons] at hu
         cases ae:x.ev G F<;>rw[ae] at hu<;>try(simp[jy] at hu;done)
         rename_i k n
         rw[ae] at r0
         obtain⟨cv,al,ao⟩:=Gn (P:=P) (w:=w) (σ:=σ) (bk base okin σ h) (xs.map (aQ.ev G F)) k n (Bs.map a.eval) v hu (by simpa using cc) (fun i ab bI=>by
          have:=bu (i+1) (by simpa using ab) (by simpa[fu] using bI)
          simpa[fu] using this)
         refine .pure H ?_ ao
         simp[execOp,cq,resolve,invoke,builtin,Builtin.max_,fu,r0.jl,al]
end
end Go.Eng
